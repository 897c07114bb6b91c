/- The parser's place: a local with dereferences. The parser's state (PS) is given; of what lay in memory only the parser's own block changes. Condition: behind each period stands an asterisk. -/
import Derived.Test.YthpanohdfelkhaaGreatDoorPar5
namespace Go.Proofs.YthpanohdfelkhaaGreatDoor
open Go.RowKit
/-- k pairs of a period and an asterisk, then rest -/
def Dots : Nat → List Tok → List Tok → Prop
  | 0, ts, rest => ts = rest
  | k + 1, ts, rest => ∃ d s us, ts = d :: s :: us ∧ 0 ≤ isIdx d [[46]] ∧ 0 ≤ isIdx s [[42]] ∧ Dots k us rest
/-- the place of the first period beyond the limit -/
def dotPos : Nat → List Tok → Int
  | 0, t :: _ => t.pos
  | n + 1, _ :: _ :: ts => dotPos n ts
  | _, _ => 0
def tokLen (p : Nat) (w : World) : Nat := match w.cell? ⟨p, 0, none⟩ with | some (.slice _ n _) => n | _ => 0
theorem tokLen_of {w : World} {p tb : Nat} {toks : List Tok} {bv : BV} (h : PS w p tb toks bv) : tokLen p w = toks.length := by
  obtain ⟨ao, c, h⟩ := h
  unfold tokLen; rw [h.c0]
def zeros (n : Nat) : List Value := List.replicate n (.int .i64 0)
theorem zeros_add (a b : Nat) : zeros a ++ zeros b = zeros (a + b) := by simp [zeros, List.replicate_append_replicate]
theorem projInfo : (Tryz.prog.info? 191).map (fun i => (i.zero, i.size, i.bytes)) = some (some (.agg #[.int .i64 0, .int .i64 0]), 2, 16) := by kernel_rfl
theorem ascii_of {l : List UInt8} (h : l.all (fun b => decide (b.toNat < 128)) = true) : ∀ (j : Nat) b, l[j]? = some b → b.toNat < 128 := by
  intro j b hb
  rw [List.all_eq_true] at h
  simpa using h b (List.mem_of_getElem? hb)
theorem dot_words : Words ⟨#[46]⟩ [[46]] := ⟨by decide, ascii_of (by decide), by decide +kernel⟩
theorem star_words : Words ⟨#[42]⟩ [[42]] := ⟨by decide, ascii_of (by decide), by decide +kernel⟩
theorem own_ne {w : World} {base : Nat} {e : TypeId} {size : Nat} {v : Value} {n : Nat} {xs : List Value} {B : Nat} {cs : Array Value} {t : TypeId} {f : Nat × Nat} (h : w.ownsRow base e size v n xs) (hB : w.heap[B]? = some (.cells cs t f)) (hne : t ≠ e) : some B ≠ v.ownBlock := by
  rcases h.2 with ⟨rfl, _⟩ | ⟨g, cap, cur, rfl, hg, hb, _⟩
  · intro h; cases h
  · intro h
    have h : some B = some g := h
    injection h with h; subst h
    rw [hB] at hb; injection hb with hb; injection hb with _ hb; exact hne hb
theorem box2 {w : World} {b : Nat} {x0 x1 : Value} {t : TypeId} (h : w.heap[b]? = some (.cells #[x0, x1] t (0, 0))) :
    w.cell? ⟨b, 0, none⟩ = some x0 ∧ w.cell? ⟨b, 1, none⟩ = some x1 ∧ w.frozen? ⟨b, 0, none⟩ = false ∧ w.frozen? ⟨b, 1, none⟩ = false :=
  ⟨by rw [cell_of_blk h]; rfl, by rw [cell_of_blk h]; rfl, frozen_of_blk h _, frozen_of_blk h _⟩
theorem own_slice {w : World} {base : Nat} {e : TypeId} {size : Nat} {v : Value} {n : Nat} {xs : List Value} (h : w.ownsRow base e size v n xs) : ∃ sa m c, v = .slice sa m c ∧ m = n := by
  rcases h.2 with ⟨rfl, h0⟩ | ⟨g, cap, cur, rfl, _⟩
  · exact ⟨_, _, _, rfl, h0.symm⟩
  · exact ⟨_, _, _, rfl, rfl⟩
theorem ownsRow_block {w w' : World} {base : Nat} {e : TypeId} {size : Nat} {v : Value} {n : Nat} {xs : List Value} (h : w.ownsRow base e size v n xs) (hb : ∀ g, v.ownBlock = some g → w'.heap[g]? = w.heap[g]?) : w'.ownsRow base e size v n xs := by
  refine ⟨h.1, ?_⟩
  rcases h.2 with h2 | ⟨g, cap, cur, hv, hg, hbl, r⟩
  · exact .inl h2
  · exact .inr ⟨g, cap, cur, hv, hg, (hb g (by rw [hv]; rfl)).trans hbl, r⟩
theorem ownsRow_set {w : World} {base : Nat} {e : TypeId} {size : Nat} {v : Value} {n : Nat} {xs : List Value} (h : w.ownsRow base e size v n xs) {q : Addr} (hq : some q.block ≠ v.ownBlock) (u : Value) : (w.setCell q u).ownsRow base e size v n xs :=
  ownsRow_block h fun g hg => Below.heap_setCell _ _ _ _ (fun h => hq (by rw [hg, h]))
theorem PS.blocks {w w' : World} {p tb : Nat} {toks : List Tok} {bv : BV} (h : PS w p tb toks bv) (hs : w.heap.size ≤ w'.heap.size) (hp : w'.heap[p]? = w.heap[p]?) (ht : w'.heap[tb]? = w.heap[tb]?) : PS w' p tb toks bv := by
  obtain ⟨ao, c, h⟩ := h
  exact ⟨ao, c, hp.trans h.blk, h.cap, h.ne, Nat.lt_of_lt_of_le h.lt hs, h.toks.keep ht⟩
theorem Fr.grown {p : Nat} {a w w' : World} (h : Fr p a w) {row : Option Nat} (g : w.grownBy w' row) (hs : a.heap.size ≤ w.heap.size) (hr : ∀ k, row = some k → a.heap.size ≤ k) : Fr p a w' :=
  ⟨g.os.trans h.os, g.tape.trans h.tape, g.output.trans h.output, Nat.le_trans h.size g.size, fun k hk hp => (g.block k (by omega) (fun e => by have := hr k e.symm; omega)).trans (h.block k hk hp)⟩
theorem LocSl.fr {p : Nat} {w w' : World} {v : Value} {ls : List (List UInt8 × Int)} (h : LocSl w v ls) (hb : Fr p w w') (hp : ∀ o n m, v ≠ .slice (some ⟨p, o, none⟩) n m) : LocSl w' v ls :=
  h.keep hb.size fun k ⟨o, n, c, hk⟩ hlt => hb.block k hlt (fun e => hp o n c (by rw [hk, e]))
theorem ownsRow_base {w : World} {base b : Nat} {e : TypeId} {size : Nat} {v : Value} {n : Nat} {xs : List Value} (h : w.ownsRow base e size v n xs) (hb : b ≤ base) : w.ownsRow b e size v n xs := by
  refine ⟨h.1, ?_⟩
  rcases h.2 with h2 | ⟨g, cap, cur, hv, hg, r⟩
  · exact .inl h2
  · exact .inr ⟨g, cap, cur, hv, Nat.le_trans hb hg, r⟩
/-- a world that differs from another in block b alone -/
structure Only (b : Nat) (w w' : World) : Prop where
  os : w'.os = w.os
  tape : w'.tape = w.tape
  output : w'.output = w.output
  size : w'.heap.size = w.heap.size
  block : ∀ k, k ≠ b → w'.heap[k]? = w.heap[k]?
theorem Only.refl (b : Nat) (w : World) : Only b w w := ⟨rfl, rfl, rfl, rfl, fun _ _ => rfl⟩
theorem Only.set {b : Nat} {w w' : World} (h : Only b w w') (o : Nat) (v : Value) : Only b w (w'.setCell ⟨b, o, none⟩ v) :=
  ⟨h.os, h.tape, h.output, by simpa [World.setCell] using h.size, fun k hk => by rw [Below.heap_setCell _ _ _ _ hk]; exact h.block k hk⟩
theorem Only.fr {b : Nat} {w w' a : World} {p : Nat} (h : Only b w w') (g : Fr p a w) (hb : a.heap.size ≤ b ∨ b = p) : Fr p a w' :=
  ⟨h.os.trans g.os, h.tape.trans g.tape, h.output.trans g.output, by rw [h.size]; exact g.size, fun k hk hp => (h.block k (by omega)).trans (g.block k hk hp)⟩
theorem Only.below {b base : Nat} {w w' a : World} (h : Only b w w') (g : Below base a w) (hb : base ≤ b) : Below base a w' :=
  ⟨h.os.trans g.os, h.tape.trans g.tape, h.output.trans g.output, by rw [h.size]; exact g.size, fun k hk => (h.block k (by omega)).trans (g.block k hk)⟩
theorem Only.ps {b : Nat} {w w' : World} {p tb : Nat} {toks : List Tok} {bv : BV} (h : Only b w w') (g : PS w p tb toks bv) (hp : p ≠ b) (ht : tb ≠ b) : PS w' p tb toks bv :=
  g.blocks (by rw [h.size]; exact Nat.le_refl _) (h.block p hp) (h.block tb ht)
theorem Only.own {b : Nat} {w w' : World} {base : Nat} {e : TypeId} {size : Nat} {v : Value} {n : Nat} {xs : List Value} (h : Only b w w') (g : w.ownsRow base e size v n xs) (hb : some b ≠ v.ownBlock) : w'.ownsRow base e size v n xs :=
  ownsRow_block g fun k hk => h.block k (fun e => hb (by rw [hk, e]))
theorem Only.glob {b : Nat} {w w' : World} (h : Only b w w') (g : Glob w) (hb : 13 ≤ b) : Glob w' := g.keep (by rw [h.size]; exact Nat.le_refl _) fun k hk => h.block k (by omega)
theorem tok_dot {d : Tok} (h : 0 ≤ isIdx d [[46]]) : (d.k != 0) = true := by rw [bne_iff_ne]; exact isIdx_end h
theorem Dots.ne {r : Tok} {rs : List Tok} : ∀ {k : Nat} {ts : List Tok}, Dots k ts (r :: rs) → ts ≠ []
  | 0, ts, h => by rw [show ts = r :: rs from h]; simp
  | k + 1, ts, h => by obtain ⟨d, s, us, rfl, _⟩ := h; simp
/-- the loop's relation: B is the place's own block -/
def PlRel (p tb B : Nat) (bv : BV) (i : Int) (k : Nat) (rest : List Tok) (base : Nat) (q : Int) (w : World) (wr : World) : Prop :=
  ∃ (j k' : Nat) (us : List Tok) (v : Value), j + k' = k ∧ j ≤ 32 ∧ dotPos (32 - j) us = q ∧ Dots k' us rest ∧ PS wr p tb us bv ∧ Fr p w wr ∧ wr.heap[B]? = some (.cells #[.int .i64 i, v] 76 (0, 0)) ∧ wr.ownsRow base 191 2 v j (zeros (2 * j)) ∧ wr.heap[base]? = some (.cells #[.int .i64 0, .slice none 0 0] 76 (0, 0))
set_option maxRecDepth 100000 in
set_option maxHeartbeats 1000000 in
theorem place_any (p tb : Nat) (t : Tok) (ts : List Tok) (r : Tok) (rs : List Tok) (bv : BV) (ls : List (List UInt8 × Int)) (i : Int) (k : Nat) (w : World) (hG : Glob w) (h : PS w p tb (t :: ts) bv) (hp13 : 13 ≤ p) (hlen : ls.length ≤ 1000000000) (hl : LocSl w bv.lc ls) (hk : (t.k != 3) = false) (hi : idxN ls t.tx 0 = i) (hi0 : 0 ≤ i) (hd : Dots k ts (r :: rs)) (hr : isIdx r [[46]] < 0) :
    Calls Tryz.prog 77 #[.pointer (some ⟨p, 0, none⟩)] w fun e w' => Fr p w w' ∧ ((k ≤ 32 ∧ ∃ v, e = .returned (.agg #[.int .i64 i, v]) ∧ PS w' p tb (r :: rs) bv ∧ w'.ownsRow w.heap.size 191 2 v k (zeros (2 * k))) ∨ (32 < k ∧ e = FailV (dotPos 32 ts) 19)) := by
  have hp := h.plt
  have htb := h.tlt
  have hps0 : ∀ o, PS (w.alloc o) p tb (t :: ts) bv := fun o => h.alloc o
  have hl0 : ∀ o, LocSl (w.alloc o) bv.lc ls := fun o => hl.below ((Below.refl _ _).alloc (Nat.le_refl _) o)
  have hts := hd.ne
  have Hi := Lib.hid hi; clear hi
  go_enter Tryz.func77, Tryz.ntmps77
  go_wp2_with fail
  go_step3
  go_wp2_with (first | (go_at_call 98; refine (local_yes p tb t ts bv ls i _ (hps0 _) hlen (hl0 _) hk Hi.out hi0 hts).mono ?_; rintro e w1 ⟨rfl, hps1, hfr1⟩; have hs1 := hfr1.size; have hb1 := hfr1.block w.heap.size (by simp) (by omega); have hp1 : p < w1.heap.size := hps1.plt; have htb1 : tb < w1.heap.size := hps1.tlt))
  go_step3
  go_wp2_with fail
  go_loopw [4, 5] (fun _ _ wr => PlRel p tb w1.heap.size bv i k (r :: rs) w.heap.size (dotPos 32 ts) w wr) (fun _ _ wr => tokLen p wr)
  case atStart =>
    refine ⟨0, k, ts, .slice none 0 0, by omega, by omega, rfl, hd, hps1.alloc _, (((Fr.refl _ _).alloc _).trans hfr1).alloc _, heap_new _ _, World.ownsRow_nil _ _ _ _, ?_⟩
    rw [Below.heap_alloc _ _ _ (by simp at hs1; omega), hb1]; exact heap_new _ _
  case round =>
    obtain ⟨j, k', us, v, hjk, hj32, hpos, hd', hps, hfr, hB, hown, hR⟩ := hrel
    have HGr : Hid (Glob wr) := hG.fr hfr hp13
    have hs2 := hfr.size
    have hBlt := lt_of_blk hB
    obtain ⟨sa, sn, sc, rfl, rfl⟩ := own_slice hown
    obtain ⟨c0, c1, f0, f1⟩ := box2 hB
    obtain ⟨d0, d1, g0, g1⟩ := box2 hR
    simp only [World.size_alloc] at hs1
    cases k' with
    | zero =>
      obtain rfl : us = r :: rs := hd'
      have hne : w.heap.size ≠ w1.heap.size := by omega
      go_wp2_with (first | (go_at_call 123; refine (is_out p tb r rs bv _ [[46]] _ HGr.out hps dot_words (by simp) hr).mono ?_; rintro e w2 ⟨rfl, hb2⟩; have hc := bcell hb2; have c0' := (hc.1 _ _ hBlt).trans c0; have c1' := (hc.1 _ _ hBlt).trans c1; have hR' := (hb2.block _ (lt_of_blk hR)).trans hR; have hps2 := hps.keep hb2; have hs3 := hb2.size; obtain ⟨d0', d1', g0', g1'⟩ := box2 hR'; clear hc))
      rw [Exit.noGoto_ret]
      refine bodyPost_ret (v := .agg #[.int .i64 i, .slice sa sn sc]) (by simp [results, Tryz.results77, go_sem, d0', d1']) rfl ?_
      have hk : sn = k := by omega
      subst hk
      have hbn : some w.heap.size ≠ (Value.slice sa sn sc).ownBlock := own_ne hown hR (by decide)
      refine ⟨((hfr.trans (Fr.of_below hb2)).setCell (.inl (by simp)) _).setCell (.inl (by simp)) _, .inl ⟨by omega, _, rfl, ?_, ?_⟩⟩
      · exact (hps2.setCell (by simp; omega) (by simp; omega) _).setCell (by simp; omega) (by simp; omega) _
      · exact ownsRow_set (ownsRow_set (ownsRow_below hown hb2) hbn _) hbn _
    | succ k' =>
      obtain ⟨d, s, us', rfl, hd0, hs0, hd2⟩ := hd'
      have hdk := tok_dot hd0
      have hsn : us' ≠ [] := hd2.ne
      obtain ⟨i0, hi, hz0, hz1, hz2⟩ := info_parts projInfo
      have hbn : some w1.heap.size ≠ (Value.slice sa sn sc).ownBlock := own_ne hown hB (by decide)
      have hrn : some w.heap.size ≠ (Value.slice sa sn sc).ownBlock := own_ne hown hR (by decide)
      have Hown := Lib.hid hown; clear hown
      have Hfr := Lib.hid hfr; clear hfr
      by_cases h32 : sn = 32
      · subst h32
        go_wp2_with (first | (go_at_call 123; refine (is_in p tb d _ bv _ [[46]] _ _ HGr.out hps dot_words (by simp) rfl hd0).mono ?_; rintro e w2 ⟨rfl, hb2⟩; have hc := bcell hb2; have c0' := (hc.1 _ _ hBlt).trans c0; have c1' := (hc.1 _ _ hBlt).trans c1; have hps2 := hps.keep hb2; have hs3 := hb2.size; clear hc; have Hb2 := Lib.hid hb2; clear hb2) | (go_at_call 89; refine (fail_c p tb d _ bv 19 _ hps2).mono ?_; rintro e w3 ⟨rfl, rfl⟩))
        exact ⟨rfl, Hfr.out.trans (Fr.of_below Hb2.out), .inr ⟨by omega, by rw [← hpos]; rfl⟩⟩
      have hn32 : ((sn : Int) == 32) = false := beq_eq_false_iff_ne.2 (by omega)
      go_wp2_with (first | (go_at_call 123; refine (is_in p tb d _ bv _ [[46]] _ _ HGr.out hps dot_words (by simp) rfl hd0).mono ?_; rintro e w2 ⟨rfl, hb2⟩; have hc := bcell hb2; have c0' := (hc.1 _ _ hBlt).trans c0; have c1' := (hc.1 _ _ hBlt).trans c1; have hps2 := hps.keep hb2; have hs3 := hb2.size; clear hc; have Hb2 := Lib.hid hb2; clear hb2) | (go_at_call 91; refine (next_c p tb d _ bv _ hps2 hdk (by simp)).mono ?_; rintro e w3 ⟨rfl, hps3, hfr3⟩; have HG3 : Hid (Glob w3) := (HGr.out.below Hb2.out).fr hfr3 hp13; have Hfr3 := Lib.hid hfr3; clear hfr3) | (go_at_call 47; refine (maybe_in p tb s us' bv _ [[42]] _ HG3.out hps3 star_words (by simp) hs0 hsn).mono ?_; rintro e w4 ⟨rfl, hps4, hfr4⟩; have hs4 := Hfr3.out.size; have hs5 := hfr4.size; have hq : ∀ b, b < wr.heap.size → b ≠ p → w4.heap[b]? = wr.heap[b]? := (fun b hb hbp => (hfr4.block b (by omega) hbp).trans ((Hfr3.out.block b (by omega) hbp).trans (Hb2.out.block b hb))); have hB4 := (hq _ hBlt (by omega)).trans hB; have hR4 := (hq _ (lt_of_blk hR) (by omega)).trans hR; obtain ⟨e0, e1, f0', f1'⟩ := box2 hB4; have hown4 : Hid (w4.ownsRow w.heap.size 191 2 (.slice sa sn sc) sn (zeros (2 * sn))) := ownsRow_block Hown.out (fun g hg => hq g (ownBlock_lt Hown.out hg) (by have := ownBlock_ge Hown.out hg; omega)); have HQ := Lib.hid hq; clear hq; have Hfr4 := Lib.hid hfr4; clear hfr4) | (at_builtin; refine wpList_append_own _ rfl _ _ 74 rfl w.heap.size 191 i0 _ 2 16 Tryz.underlying74 hi hz0 hz1 hz2 rfl (by decide) _ _ _ rfl (hown4.out.alloc _) ⟨w4.heap.size, 0, none⟩ 1 1 (zeros 2) rfl rfl ?c1 ?c2 ?c3 ?c4 ?c5 ?_))
      case c1 => exact cell_row_new w4 (zeros 2) 191
      case c2 => intro u hu; simp [zeros] at hu; rw [hu]; rfl
      case c3 => unfold maxLen; omega
      case c4 => omega
      case c5 => simp; omega
      intro v' w5 hown5 hgrow _
      obtain ⟨ta, tn, tc, rfl, rfl⟩ := own_slice hown5
      have hB5 := (hgrow.block w1.heap.size (by simp; omega) hbn).trans ((Below.heap_alloc _ _ _ (by omega)).trans hB4)
      have hR5 := (hgrow.block w.heap.size (by simp; omega) hrn).trans ((Below.heap_alloc _ _ _ (by omega)).trans hR4)
      obtain ⟨k0, k1, l0, l1⟩ := box2 hB5
      have hbn5 : some w1.heap.size ≠ (Value.slice ta (sn + 1) tc).ownBlock := own_ne hown5 hB5 (by decide)
      have hps5 : PS w5 p tb us' bv := by
        have h4 := hps4.alloc (.cells #[.int .i64 0, .int .i64 0] 191)
        exact h4.blocks hgrow.size (hgrow.block p (by simp; omega) (fun h => by have := ownBlock_ge Hown.out h.symm; omega)) (hgrow.block tb (by simp; omega) (fun h => by have := ownBlock_ge Hown.out h.symm; omega))
      have hfr5 : Fr p w w5 := (((Hfr.out.trans (Fr.of_below Hb2.out)).trans (Hfr3.out.trans Hfr4.out)).alloc _).grown hgrow (by simp; omega) (fun k hk => ownBlock_ge Hown.out hk)
      have Hown5 := Lib.hid hown5; clear hown5 hgrow
      have Hfr5 := Lib.hid hfr5; clear hfr5
      clear e0 e1 f0' f1' hB4 hR4
      go_wp2_with fail
      refine ⟨⟨sn + 1, k', us', .slice ta (sn + 1) tc, by omega, by omega, ?_, hd2, hps5.setCell (by simp; omega) (by simp; omega) _, Hfr5.out.setCell (.inl (by simp; omega)) _, ?_, ?_, ?_⟩, ?_⟩
      · rw [← hpos, show 32 - sn = (32 - (sn + 1)) + 1 by omega]; rfl
      · rw [setBlk _ _ _ _ _ _ _ hB5]; simp
      · have := ownsRow_set Hown5.out hbn5 (q := ⟨w1.heap.size, 1, none⟩) (.slice ta (sn + 1) tc)
        rw [zeros_add] at this; exact this
      · rw [Below.heap_setCell _ _ _ _ (by simp; omega)]; exact hR5
      · rw [tokLen_of (hps5.setCell (by simp; omega) (by simp; omega) _), tokLen_of hps]; simp; omega
theorem place_shallow (p tb : Nat) (t : Tok) (ts : List Tok) (r : Tok) (rs : List Tok) (bv : BV) (ls : List (List UInt8 × Int)) (i : Int) (k : Nat) (w : World) (hG : Glob w) (h : PS w p tb (t :: ts) bv) (hp13 : 13 ≤ p) (hlen : ls.length ≤ 1000000000) (hl : LocSl w bv.lc ls) (hk : (t.k != 3) = false) (hi : idxN ls t.tx 0 = i) (hi0 : 0 ≤ i) (hd : Dots k ts (r :: rs)) (hr : isIdx r [[46]] < 0) (hk32 : k ≤ 32) :
    Calls Tryz.prog 77 #[.pointer (some ⟨p, 0, none⟩)] w fun e w' => ∃ sa sc, e = .returned (.agg #[.int .i64 i, .slice sa k sc]) ∧ Fr p w w' ∧ PS w' p tb (r :: rs) bv ∧ w'.ownsRow w.heap.size 191 2 (.slice sa k sc) k (zeros (2 * k)) := by
  refine (place_any p tb t ts r rs bv ls i k w hG h hp13 hlen hl hk hi hi0 hd hr).mono ?_
  rintro e w' ⟨hfr, ⟨_, v, rfl, hps, hown⟩ | ⟨h32, _⟩⟩
  · obtain ⟨sa, m, sc, rfl, rfl⟩ := own_slice hown
    exact ⟨sa, sc, rfl, hfr, hps, hown⟩
  · omega
theorem place_deep (p tb : Nat) (t : Tok) (ts : List Tok) (r : Tok) (rs : List Tok) (bv : BV) (ls : List (List UInt8 × Int)) (i : Int) (k : Nat) (w : World) (hG : Glob w) (h : PS w p tb (t :: ts) bv) (hp13 : 13 ≤ p) (hlen : ls.length ≤ 1000000000) (hl : LocSl w bv.lc ls) (hk : (t.k != 3) = false) (hi : idxN ls t.tx 0 = i) (hi0 : 0 ≤ i) (hd : Dots k ts (r :: rs)) (hr : isIdx r [[46]] < 0) (hk32 : 32 < k) :
    Calls Tryz.prog 77 #[.pointer (some ⟨p, 0, none⟩)] w fun e w' => e = FailV (dotPos 32 ts) 19 ∧ Fr p w w' := by
  refine (place_any p tb t ts r rs bv ls i k w hG h hp13 hlen hl hk hi hi0 hd hr).mono ?_
  rintro e w' ⟨hfr, ⟨_, _⟩ | ⟨_, rfl⟩⟩
  · omega
  · exact ⟨rfl, hfr⟩
end Go.Proofs.YthpanohdfelkhaaGreatDoor
