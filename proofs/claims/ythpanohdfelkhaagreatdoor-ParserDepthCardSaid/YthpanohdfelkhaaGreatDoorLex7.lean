/- lexer.Lex: it returns Lx.lex; nothing that lay in memory is changed; the tokens lie in a new block. Texts up to 10^6 bytes. -/
import Derived.Test.YthpanohdfelkhaaGreatDoorLex6
import Derived.Test.YthpanohdfelkhaaGreatDoorSpec
namespace Go.Proofs.YthpanohdfelkhaaGreatDoor
open Go.RowKit
def Tok.vals (t : Tok) : List Value := [.int .i64 t.k, .string ⟨t.tx.toArray⟩, .int .i64 t.n, .int .i64 t.pos]
theorem vals_length (t : Tok) : t.vals.length = 4 := rfl
theorem toks_length : ∀ l : List Tok, (l.flatMap Tok.vals).length = 4 * l.length
  | [] => rfl
  | t :: l => by rw [List.flatMap_cons, List.length_append, toks_length l, vals_length, List.length_cons]; omega
/-- a row of cells that begins as the tokens' cells do holds the tokens -/
theorem toksAt_of (w : World) (g : Nat) : ∀ (l : List Tok) (o : Nat), (∀ i u, (l.flatMap Tok.vals)[i]? = some u → w.cell? ⟨g, o + i, none⟩ = some u) → ToksAt w g o l
  | [], _, _ => trivial
  | t :: l, o, h => by
    refine ⟨⟨h 0 _ rfl, h 1 _ rfl, h 2 _ rfl, h 3 _ rfl⟩, toksAt_of w g l (o + 4) fun i u hi => ?_⟩
    have := h (4 + i) u (by rw [List.flatMap_cons, List.getElem?_append_right (by rw [vals_length]; omega), vals_length, Nat.add_sub_cancel_left]; exact hi)
    rw [← Nat.add_assoc] at this; exact this
theorem cell_row_new (w : World) (xs : List Value) (t : TypeId) (j : Nat) (u : Value) (h : xs[j]? = some u) : (w.alloc (.cells xs.toArray t)).cell? ((⟨w.heap.size, 0, none⟩ : Addr).add j) = some u := by
  have hb := heap_new w (.cells xs.toArray t)
  have e : (⟨w.heap.size, 0, none⟩ : Addr).add j = ⟨w.heap.size, j, none⟩ := by cases j <;> simp [Addr.add]
  rw [e, cell_of_blk hb]; simpa using h
theorem cell_row_new2 (w : World) (o : Obj) (xs : List Value) (t : TypeId) (j : Nat) (u : Value) (h : xs[j]? = some u) : ((w.alloc o).alloc (.cells xs.toArray t)).cell? ((⟨w.heap.size + 1, 0, none⟩ : Addr).add j) = some u := by
  have := cell_row_new (w.alloc o) xs t j u h
  simpa using this
theorem ownBlock_lt {w : World} {base : Nat} {e : TypeId} {size : Nat} {v : Value} {n k : Nat} {xs : List Value} (h : w.ownsRow base e size v n xs) (hk : v.ownBlock = some k) : k < w.heap.size := by
  rcases h.2 with ⟨rfl, _⟩ | ⟨g, cap, cur, rfl, hg, hb, _⟩
  · cases hk
  · have hk : some g = some k := hk
    injection hk with hk; subst hk; exact lt_of_blk hb
/-- an owned row with an element, opened -/
theorem ownsRow_cells {W : World} {base : Nat} {e : TypeId} {size : Nat} {v : Value} {k : Nat} {xs : List Value} (h : W.ownsRow base e size v (k + 1) xs) :
    ∃ g cap, v = .slice (some ⟨g, 0, none⟩) (k + 1) cap ∧ base ≤ g ∧ g < W.heap.size ∧ k + 1 ≤ cap ∧ ∀ i u, xs[i]? = some u → W.cell? ⟨g, i, none⟩ = some u := by
  rcases h.2 with ⟨_, h0⟩ | ⟨g, cap, cur, rfl, hg, hb, hc, _, _, ht⟩
  · omega
  · refine ⟨g, cap, rfl, hg, lt_of_blk hb, hc, fun i u hi => ?_⟩
    rw [cell_of_blk hb]
    rw [← ht] at hi
    have : i < (k + 1) * size := by
      have := (List.getElem?_eq_some_iff.1 hi).1
      rw [List.length_take] at this; omega
    rw [List.getElem?_take_of_lt this] at hi
    simpa using hi
theorem lex_ok {s : List UInt8} {acc : List Tok} (h : Lx.lexF s (s.length + 1) (Lx.skip s 0) (-1) [] = .ok acc) : Lx.lex s = .ok (acc ++ [⟨0, [], 0, s.length⟩]) := by unfold Lx.lex; rw [h]
theorem lex_err {s : List UInt8} {x : Nat × Int} (h : Lx.lexF s (s.length + 1) (Lx.skip s 0) (-1) [] = .error x) : Lx.lex s = .error x := by unfold Lx.lex; rw [h]
theorem tokInfo : (Tryz.prog.info? 110).map (fun i => (i.zero, i.size, i.bytes)) = some (some (.agg #[.int .i64 0, .string ByteArray.empty, .int .i64 0, .int .i64 0]), 4, 40) := by kernel_rfl
theorem scan_ok (s : ByteArray) (a q : Nat) (t : Tok) (w : World) (hG : Glob w) (hs : s.size ≤ 1000000000) (ha : a < s.size) (h : Lx.scan s.data.toList a = .ok (t, q)) :
    Calls Tryz.prog 87 #[.string s, .int .i64 a] w fun e w' => e = .returned (.tuple #[.agg #[.int .i64 t.k, .string ⟨t.tx.toArray⟩, .int .i64 t.n, .int .i64 t.pos], .int .i64 q, .int .i64 0]) ∧ Below w.heap.size w w' := by
  have := scan_any s a w hG hs ha; rw [h] at this; exact this
theorem scan_bad (s : ByteArray) (a : Nat) (c : Int) (w : World) (hG : Glob w) (hs : s.size ≤ 1000000000) (ha : a < s.size) (h : Lx.scan s.data.toList a = .error c) :
    Calls Tryz.prog 87 #[.string s, .int .i64 a] w fun e w' => (∃ (k : Int) (tx : ByteArray) (n p q : Int), e = .returned (.tuple #[.agg #[.int .i64 k, .string tx, .int .i64 n, .int .i64 p], .int .i64 q, .int .i64 c])) ∧ Below w.heap.size w w' := by
  have := scan_any s a w hG hs ha; rw [h] at this
  refine this.mono ?_
  rintro e w' ⟨⟨t, q, rfl⟩, hb⟩
  exact ⟨⟨t.k, _, t.n, t.pos, q, rfl⟩, hb⟩
theorem skip_is (s : ByteArray) (a q : Nat) (w : World) (hs : s.size ≤ 1000000000) (ha : a ≤ s.size) (h : Lx.skip s.data.toList a = q) :
    Calls Tryz.prog 85 #[.string s, .int .i64 a] w fun e w' => e = .returned (.int .i64 q) ∧ w = w' := h ▸ skip_any s a w hs ha
def LexPost (r : Except (Nat × Int) (List Tok)) (n : Nat) (w : World) (e : Ending) (w' : World) : Prop :=
  Below w.heap.size w w' ∧ match r with
  | .ok toks => ∃ g cap, e = .returned (.tuple #[.slice (some ⟨g, 0, none⟩) toks.length cap, .int .i64 n, .int .i64 0]) ∧ w.heap.size ≤ g ∧ g < w'.heap.size ∧ toks.length ≤ cap ∧ ToksAt w' g 0 toks
  | .error x => e = .returned (.tuple #[.slice none 0 0, .int .i64 (x.1 : Nat), .int .i64 x.2])
theorem ownBlock_ge {w : World} {base : Nat} {e : TypeId} {size : Nat} {v : Value} {n k : Nat} {xs : List Value} (h : w.ownsRow base e size v n xs) (hk : v.ownBlock = some k) : base ≤ k := by
  rcases h.2 with ⟨rfl, _⟩ | ⟨g, cap, cur, rfl, hg, _⟩
  · cases hk
  · have hk : some g = some k := hk
    injection hk with hk; omega
theorem ownsRow_below {w w1 : World} {base : Nat} {e : TypeId} {size : Nat} {v : Value} {n : Nat} {xs : List Value} (h : w.ownsRow base e size v n xs) (hb : Below w.heap.size w w1) : w1.ownsRow base e size v n xs := by
  refine ⟨h.1, ?_⟩
  rcases h.2 with h2 | ⟨g, cap, cur, hv, hg, hbl, r⟩
  · exact .inl h2
  · exact .inr ⟨g, cap, cur, hv, hg, (hb.block g (lt_of_blk hbl)).trans hbl, r⟩
/-- the loop's relation -/
def LexRel (s : ByteArray) (w : World) (v aft a : Value) (wr : World) : Prop :=
  ∃ (f p : Nat) (after : Int) (acc : List Tok), a = .int .i64 p ∧ aft = .int .i64 after ∧ p ≤ s.size ∧ s.size - p < f ∧ acc.length ≤ p ∧ -1 ≤ after ∧ after ≤ s.size ∧
    Lx.lexF s.data.toList (s.size + 1) (Lx.skip s.data.toList 0) (-1) [] = Lx.lexF s.data.toList f p after acc ∧
    wr.ownsRow w.heap.size 110 4 v acc.length (acc.flatMap Tok.vals) ∧ Below w.heap.size w wr
set_option maxRecDepth 100000 in
set_option maxHeartbeats 1000000 in
theorem lex_any (s : ByteArray) (w : World) (hG : Glob w) (hs : s.size ≤ 1000000) :
    Calls Tryz.prog 43 #[.string s] w (LexPost (Lx.lex s.data.toList) s.size w) := by
  have hs9 : s.size ≤ 1000000000 := by omega
  have hb0 := Lx.skip_bounds s.data.toList 0 (Nat.zero_le _)
  rw [size_list] at hb0
  obtain ⟨q0, hq0⟩ : ∃ q, Lx.skip s.data.toList 0 = q := ⟨_, rfl⟩
  have Hq0 := Lib.hid hq0
  rw [hq0] at hb0
  clear hq0
  go_enter Tryz.func43, Tryz.ntmps43
  go_wp2_with fail
  go_step3
  go_wp2_with fail
  go_step3
  go_wp2_with (first | (go_at_call 85; refine (skip_is s 0 q0 _ hs9 (Nat.zero_le _) Hq0.out).mono ?_; rintro e w' ⟨rfl, rfl⟩))
  go_loopw [5, 6, 7, 8, 9, 10] (fun v aft a _ _ _ wr => LexRel s w v aft a wr) (fun _ _ a _ _ _ _ => s.size - (intOf a).toNat)
  case atStart => exact ⟨s.size + 1, q0, -1, [], rfl, rfl, hb0.2, by omega, by simp, by omega, by omega, by rw [Hq0.out], World.ownsRow_nil _ _ _ _, Below.refl _ _⟩
  case round =>
    obtain ⟨f, p, after, acc, rfl, rfl, hp, hf, hacc, ha1, ha2, he, hown, hbel⟩ := hrel
    obtain ⟨f, rfl⟩ : ∃ g, f = g + 1 := ⟨f - 1, by omega⟩
    have hGr : Glob wr := hG.below hbel
    have Hown := Lib.hid hown; clear hown
    have Hbel := Lib.hid hbel; clear hbel
    have HG := Lib.hid hGr; clear hGr
    have hstep : Lx.lexF s.data.toList (f + 1) p after acc = if p = s.data.toList.length then .ok acc else if (decide ((p : Int) = after) && ((s.data.toList[p]?).any (Lx.isIn Lx.lettersDigits))) = true then .error (p, 18) else match Lx.scan s.data.toList p with
      | .error e => .error (p, e)
      | .ok (t, q) => Lx.lexF s.data.toList f (Lx.skip s.data.toList q) (if Lx.isNum t.k then (q : Int) else -1) (acc ++ [t]) := rfl
    rw [hstep] at he
    clear hstep
    rw [size_list] at he
    obtain ⟨i0, hi, hz0, hz1, hz2⟩ := info_parts tokInfo
    by_cases hps : p = s.size
    · subst hps
      rw [if_pos rfl] at he
      have He := Lib.hid he; clear he
      go_wp2_with (at_builtin; refine wpList_append_own _ rfl _ _ 61 rfl w.heap.size 110 i0 _ 4 40 Tryz.underlying61 hi hz0 hz1 hz2 rfl (by decide) _ _ _ rfl (Hown.out.alloc _) ⟨wr.heap.size, 0, none⟩ 1 1 (Tok.vals ⟨0, [], 0, s.size⟩) rfl rfl ?c1 ?c2 ?c3 ?c4 ?c5 ?_)
      case c1 => exact cell_row_new wr (Tok.vals ⟨0, [], 0, s.size⟩) 110
      case c2 => intro u hu; simp [Tok.vals] at hu; rcases hu with rfl | rfl | rfl | rfl <;> rfl
      case c3 => unfold maxLen; omega
      case c4 => omega
      case c5 => have := Hbel.out.size; simp; omega
      intro v' w1 hown' hgrow _
      obtain ⟨g, cap, rfl, hg1, hg2, hg3, hg4⟩ := ownsRow_cells hown'
      have Hg := Lib.hid hgrow; clear hgrow hown'
      have Hc := Lib.hid hg4; clear hg4
      go_wp2_with fail
      rw [Exit.noGoto_ret]
      go_ret3
      refine ⟨?_, ?_⟩
      · exact (Hbel.out.trans ((Below.refl _ _).alloc Hbel.out.size _)).grown Hg.out (by have := Hbel.out.size; simp; omega) (fun k hk => ownBlock_ge Hown.out hk)
      · rw [lex_ok (by rw [size_list]; exact He.out)]
        refine ⟨g, cap, by simp, hg1, hg2, by simpa using hg3, toksAt_of _ _ _ _ fun i u hi => ?_⟩
        rw [Nat.zero_add]
        refine Hc.out i u ?_
        rw [size_list] at hi
        simpa using hi
    · rw [if_neg hps] at he
      have hlt : p < s.size := by omega
      have hne : ((p : Int) == (s.size : Int)) = false := beq_eq_false_iff_ne.2 (by omega)
      have hlt' : (p : Int) < s.size := by omega
      rw [getElem_list s p hlt] at he
      simp only [Option.any_some] at he
      by_cases hstop : (decide ((p : Int) = after) && Lx.isIn Lx.lettersDigits s[p]) = true
      · rw [if_pos hstop] at he
        have He := Lib.hid he; clear he
        simp only [Bool.and_eq_true, decide_eq_true_eq] at hstop
        obtain ⟨rfl, hin⟩ := hstop
        have hge := isIn_true hin
        clear hin
        unfold Lx.lettersDigits at hge
        go_wp2_with (first | (go_at_call 86; refine (indexByte_c _ _ _).mono ?_; rintro e w' ⟨rfl, rfl⟩))
        rw [Exit.noGoto_ret]
        go_ret3
        refine ⟨Hbel.out, ?_⟩
        rw [lex_err (by rw [size_list]; exact He.out)]
        rfl
      · rw [if_neg hstop] at he
        have hcase : ((p : Int) == after) = false ∨ ((p : Int) = after ∧ Lx.isIn Lx.lettersDigits s[p] = false) := by
          by_cases hpa : (p : Int) = after
          · right; refine ⟨hpa, ?_⟩
            simpa [hpa] using hstop
          · left; exact beq_eq_false_iff_ne.2 hpa
        clear hstop
        cases hsc : Lx.scan s.data.toList p with
        | error c =>
          rw [hsc] at he
          have He := Lib.hid he; clear he
          have hc0 : (c != 0) = true := by
            have := Lx.scan_code s.data.toList p c (by rw [size_list]; exact hlt) hsc
            rw [bne_iff_ne]; omega
          have Hsc := Lib.hid hsc; clear hsc
          rcases hcase with haf | ⟨rfl, hin⟩
          · go_wp2_with (first | (go_at_call 87; refine (scan_bad s p c _ HG.out hs9 hlt Hsc.out).mono ?_; rintro e w1 ⟨⟨k, tx, n, pp, q, rfl⟩, hb⟩))
            rw [Exit.noGoto_ret]
            go_ret3
            refine ⟨?_, ?_⟩
            · exact ((Hbel.out.trans (hb.mono Hbel.out.size)).alloc (by have := Hbel.out.size; have := hb.size; omega) _)
            · rw [lex_err (by rw [size_list]; exact He.out)]; rfl
          · have hge := isIn_false hin
            clear hin
            unfold Lx.lettersDigits at hge
            go_wp2_with (first | (go_at_call 87; refine (scan_bad s p c _ HG.out hs9 hlt Hsc.out).mono ?_; rintro e w1 ⟨⟨k, tx, n, pp, q, rfl⟩, hb⟩) | (go_at_call 86; refine (indexByte_c _ _ _).mono ?_; rintro e w' ⟨rfl, rfl⟩))
            rw [Exit.noGoto_ret]
            go_ret3
            refine ⟨?_, ?_⟩
            · exact ((Hbel.out.trans (hb.mono Hbel.out.size)).alloc (by have := Hbel.out.size; have := hb.size; omega) _)
            · rw [lex_err (by rw [size_list]; exact He.out)]; rfl
        | ok x =>
          obtain ⟨⟨k, tx, n, pos⟩, q⟩ := x
          rw [hsc] at he
          have hto := Lx.scan_to s.data.toList p _ hsc
          rw [size_list] at hto
          obtain ⟨hq1, hq2⟩ := hto
          have hsk := Lx.skip_bounds s.data.toList q (by rw [size_list]; exact hq2)
          rw [size_list] at hsk
          simp only at he hq1 hq2
          obtain ⟨q2, hq3⟩ : ∃ q2, Lx.skip s.data.toList q = q2 := ⟨_, rfl⟩
          rw [hq3] at he hsk
          obtain ⟨hsk1, hsk2⟩ := hsk
          have Hq3 := Lib.hid hq3; clear hq3
          have Hsc := Lib.hid hsc; clear hsc
          rcases hcase with haf | ⟨rfl, hin⟩
          · cases hnum : Lx.isNum k with
            | false =>
              rw [hnum, if_neg (by simp)] at he
              have He := Lib.hid he; clear he
              have k2 : (k == 2) = false := by have := hnum; unfold Lx.isNum at this; simp only [Bool.or_eq_false_iff] at this; exact this.1.1
              have k6 : (k == 6) = false := by have := hnum; unfold Lx.isNum at this; simp only [Bool.or_eq_false_iff] at this; exact this.1.2
              have k7 : (k == 7) = false := by have := hnum; unfold Lx.isNum at this; simp only [Bool.or_eq_false_iff] at this; exact this.2
              clear hnum
              go_wp2_with (first | (go_at_call 87; refine (scan_ok s p q ⟨k, tx, n, pos⟩ _ HG.out hs9 hlt Hsc.out).mono ?_; rintro e w1 ⟨rfl, hb⟩; have hown1 := ownsRow_below Hown.out hb; have Hown1 := Lib.hid hown1; clear hown1; have Hb := Lib.hid hb; clear hb) | (at_builtin; refine wpList_append_own _ rfl _ _ 61 rfl w.heap.size 110 i0 _ 4 40 Tryz.underlying61 hi hz0 hz1 hz2 rfl (by decide) _ _ _ rfl ((Hown1.out.alloc _).alloc _) ⟨w1.heap.size + 1, 0, none⟩ 1 1 (Tok.vals ⟨k, tx, n, pos⟩) rfl rfl ?c1 ?c2 ?c3 ?c4 ?c5 ?_))
              case c1 => exact cell_row_new2 w1 _ (Tok.vals ⟨k, tx, n, pos⟩) 110
              case c2 => intro u hu; simp [Tok.vals] at hu; rcases hu with rfl | rfl | rfl | rfl <;> rfl
              case c3 => unfold maxLen; omega
              case c4 => omega
              case c5 => have := Hbel.out.size; have := Hb.out.size; simp; omega
              intro v' w2 hown' hgrow _
              have hbk := hgrow.block w1.heap.size (by simp; omega) (fun h => by have := ownBlock_lt Hown.out h.symm; have := Hb.out.size; omega)
              have hbk2 : w2.heap[w1.heap.size]? = some (.cells #[.int .i64 k, .string ⟨tx.toArray⟩, .int .i64 n, .int .i64 pos] 110 (0, 0)) := hbk.trans (by rw [Below.heap_alloc _ _ _ (by simp)]; exact heap_new _ _)
              have hcell := cell_of_blk hbk2 0
              simp only [List.getElem?_toArray, List.getElem?_cons_zero] at hcell
              have hbel2 : Below w.heap.size w w2 := (((Hbel.out.trans (Hb.out.mono Hbel.out.size)).alloc (by have := Hbel.out.size; have := Hb.out.size; omega) _).alloc (by have := Hbel.out.size; have := Hb.out.size; simp; omega) _).grown hgrow (by have := Hbel.out.size; have := Hb.out.size; simp; omega) (fun j hj => ownBlock_ge Hown.out hj)
              have Hbel2 := Lib.hid hbel2; clear hbel2
              have Hown2 := Lib.hid hown'; clear hown'
              clear hgrow hbk hbk2
              go_wp2_with (first | (go_at_call 85; refine (skip_is s q q2 _ hs9 hq2 Hq3.out).mono ?_; rintro e w' ⟨rfl, rfl⟩))
              exact ⟨⟨f, q2, -1, acc ++ [⟨k, tx, n, pos⟩], rfl, rfl, hsk2, by omega, by simp; omega, by omega, by omega, He.out, by simpa using Hown2.out, Hbel2.out⟩, by simp [intOf]; omega⟩
            | true =>
              rw [hnum, if_pos rfl] at he
              have He := Lib.hid he; clear he
              have hk3 : k = 2 ∨ k = 6 ∨ k = 7 := by have := hnum; unfold Lx.isNum at this; simp only [Bool.or_eq_true, beq_iff_eq] at this; omega
              clear hnum
              rcases hk3 with rfl | rfl | rfl
              · go_wp2_with (first | (go_at_call 87; refine (scan_ok s p q ⟨2, tx, n, pos⟩ _ HG.out hs9 hlt Hsc.out).mono ?_; rintro e w1 ⟨rfl, hb⟩; have hown1 := ownsRow_below Hown.out hb; have Hown1 := Lib.hid hown1; clear hown1; have Hb := Lib.hid hb; clear hb) | (at_builtin; refine wpList_append_own _ rfl _ _ 61 rfl w.heap.size 110 i0 _ 4 40 Tryz.underlying61 hi hz0 hz1 hz2 rfl (by decide) _ _ _ rfl ((Hown1.out.alloc _).alloc _) ⟨w1.heap.size + 1, 0, none⟩ 1 1 (Tok.vals ⟨2, tx, n, pos⟩) rfl rfl ?c1 ?c2 ?c3 ?c4 ?c5 ?_))
                case c1 => exact cell_row_new2 w1 _ (Tok.vals ⟨2, tx, n, pos⟩) 110
                case c2 => intro u hu; simp [Tok.vals] at hu; rcases hu with rfl | rfl | rfl | rfl <;> rfl
                case c3 => unfold maxLen; omega
                case c4 => omega
                case c5 => have := Hbel.out.size; have := Hb.out.size; simp; omega
                intro v' w2 hown' hgrow _
                have hbk := hgrow.block w1.heap.size (by simp; omega) (fun h => by have := ownBlock_lt Hown.out h.symm; have := Hb.out.size; omega)
                have hbk2 : w2.heap[w1.heap.size]? = some (.cells #[.int .i64 2, .string ⟨tx.toArray⟩, .int .i64 n, .int .i64 pos] 110 (0, 0)) := hbk.trans (by rw [Below.heap_alloc _ _ _ (by simp)]; exact heap_new _ _)
                have hcell := cell_of_blk hbk2 0
                simp only [List.getElem?_toArray, List.getElem?_cons_zero] at hcell
                have hbel2 : Below w.heap.size w w2 := (((Hbel.out.trans (Hb.out.mono Hbel.out.size)).alloc (by have := Hbel.out.size; have := Hb.out.size; omega) _).alloc (by have := Hbel.out.size; have := Hb.out.size; simp; omega) _).grown hgrow (by have := Hbel.out.size; have := Hb.out.size; simp; omega) (fun j hj => ownBlock_ge Hown.out hj)
                have Hbel2 := Lib.hid hbel2; clear hbel2
                have Hown2 := Lib.hid hown'; clear hown'
                clear hgrow hbk hbk2
                go_wp2_with (first | (go_at_call 85; refine (skip_is s q q2 _ hs9 hq2 Hq3.out).mono ?_; rintro e w' ⟨rfl, rfl⟩))
                exact ⟨⟨f, q2, q, acc ++ [⟨2, tx, n, pos⟩], rfl, rfl, hsk2, by omega, by simp; omega, by omega, by omega, He.out, by simpa using Hown2.out, Hbel2.out⟩, by simp [intOf]; omega⟩
              · go_wp2_with (first | (go_at_call 87; refine (scan_ok s p q ⟨6, tx, n, pos⟩ _ HG.out hs9 hlt Hsc.out).mono ?_; rintro e w1 ⟨rfl, hb⟩; have hown1 := ownsRow_below Hown.out hb; have Hown1 := Lib.hid hown1; clear hown1; have Hb := Lib.hid hb; clear hb) | (at_builtin; refine wpList_append_own _ rfl _ _ 61 rfl w.heap.size 110 i0 _ 4 40 Tryz.underlying61 hi hz0 hz1 hz2 rfl (by decide) _ _ _ rfl ((Hown1.out.alloc _).alloc _) ⟨w1.heap.size + 1, 0, none⟩ 1 1 (Tok.vals ⟨6, tx, n, pos⟩) rfl rfl ?c1 ?c2 ?c3 ?c4 ?c5 ?_))
                case c1 => exact cell_row_new2 w1 _ (Tok.vals ⟨6, tx, n, pos⟩) 110
                case c2 => intro u hu; simp [Tok.vals] at hu; rcases hu with rfl | rfl | rfl | rfl <;> rfl
                case c3 => unfold maxLen; omega
                case c4 => omega
                case c5 => have := Hbel.out.size; have := Hb.out.size; simp; omega
                intro v' w2 hown' hgrow _
                have hbk := hgrow.block w1.heap.size (by simp; omega) (fun h => by have := ownBlock_lt Hown.out h.symm; have := Hb.out.size; omega)
                have hbk2 : w2.heap[w1.heap.size]? = some (.cells #[.int .i64 6, .string ⟨tx.toArray⟩, .int .i64 n, .int .i64 pos] 110 (0, 0)) := hbk.trans (by rw [Below.heap_alloc _ _ _ (by simp)]; exact heap_new _ _)
                have hcell := cell_of_blk hbk2 0
                simp only [List.getElem?_toArray, List.getElem?_cons_zero] at hcell
                have hbel2 : Below w.heap.size w w2 := (((Hbel.out.trans (Hb.out.mono Hbel.out.size)).alloc (by have := Hbel.out.size; have := Hb.out.size; omega) _).alloc (by have := Hbel.out.size; have := Hb.out.size; simp; omega) _).grown hgrow (by have := Hbel.out.size; have := Hb.out.size; simp; omega) (fun j hj => ownBlock_ge Hown.out hj)
                have Hbel2 := Lib.hid hbel2; clear hbel2
                have Hown2 := Lib.hid hown'; clear hown'
                clear hgrow hbk hbk2
                go_wp2_with (first | (go_at_call 85; refine (skip_is s q q2 _ hs9 hq2 Hq3.out).mono ?_; rintro e w' ⟨rfl, rfl⟩))
                exact ⟨⟨f, q2, q, acc ++ [⟨6, tx, n, pos⟩], rfl, rfl, hsk2, by omega, by simp; omega, by omega, by omega, He.out, by simpa using Hown2.out, Hbel2.out⟩, by simp [intOf]; omega⟩
              · go_wp2_with (first | (go_at_call 87; refine (scan_ok s p q ⟨7, tx, n, pos⟩ _ HG.out hs9 hlt Hsc.out).mono ?_; rintro e w1 ⟨rfl, hb⟩; have hown1 := ownsRow_below Hown.out hb; have Hown1 := Lib.hid hown1; clear hown1; have Hb := Lib.hid hb; clear hb) | (at_builtin; refine wpList_append_own _ rfl _ _ 61 rfl w.heap.size 110 i0 _ 4 40 Tryz.underlying61 hi hz0 hz1 hz2 rfl (by decide) _ _ _ rfl ((Hown1.out.alloc _).alloc _) ⟨w1.heap.size + 1, 0, none⟩ 1 1 (Tok.vals ⟨7, tx, n, pos⟩) rfl rfl ?c1 ?c2 ?c3 ?c4 ?c5 ?_))
                case c1 => exact cell_row_new2 w1 _ (Tok.vals ⟨7, tx, n, pos⟩) 110
                case c2 => intro u hu; simp [Tok.vals] at hu; rcases hu with rfl | rfl | rfl | rfl <;> rfl
                case c3 => unfold maxLen; omega
                case c4 => omega
                case c5 => have := Hbel.out.size; have := Hb.out.size; simp; omega
                intro v' w2 hown' hgrow _
                have hbk := hgrow.block w1.heap.size (by simp; omega) (fun h => by have := ownBlock_lt Hown.out h.symm; have := Hb.out.size; omega)
                have hbk2 : w2.heap[w1.heap.size]? = some (.cells #[.int .i64 7, .string ⟨tx.toArray⟩, .int .i64 n, .int .i64 pos] 110 (0, 0)) := hbk.trans (by rw [Below.heap_alloc _ _ _ (by simp)]; exact heap_new _ _)
                have hcell := cell_of_blk hbk2 0
                simp only [List.getElem?_toArray, List.getElem?_cons_zero] at hcell
                have hbel2 : Below w.heap.size w w2 := (((Hbel.out.trans (Hb.out.mono Hbel.out.size)).alloc (by have := Hbel.out.size; have := Hb.out.size; omega) _).alloc (by have := Hbel.out.size; have := Hb.out.size; simp; omega) _).grown hgrow (by have := Hbel.out.size; have := Hb.out.size; simp; omega) (fun j hj => ownBlock_ge Hown.out hj)
                have Hbel2 := Lib.hid hbel2; clear hbel2
                have Hown2 := Lib.hid hown'; clear hown'
                clear hgrow hbk hbk2
                go_wp2_with (first | (go_at_call 85; refine (skip_is s q q2 _ hs9 hq2 Hq3.out).mono ?_; rintro e w' ⟨rfl, rfl⟩))
                exact ⟨⟨f, q2, q, acc ++ [⟨7, tx, n, pos⟩], rfl, rfl, hsk2, by omega, by simp; omega, by omega, by omega, He.out, by simpa using Hown2.out, Hbel2.out⟩, by simp [intOf]; omega⟩
          · have hge := isIn_false hin
            clear hin
            unfold Lx.lettersDigits at hge
            cases hnum : Lx.isNum k with
            | false =>
              rw [hnum, if_neg (by simp)] at he
              have He := Lib.hid he; clear he
              have k2 : (k == 2) = false := by have := hnum; unfold Lx.isNum at this; simp only [Bool.or_eq_false_iff] at this; exact this.1.1
              have k6 : (k == 6) = false := by have := hnum; unfold Lx.isNum at this; simp only [Bool.or_eq_false_iff] at this; exact this.1.2
              have k7 : (k == 7) = false := by have := hnum; unfold Lx.isNum at this; simp only [Bool.or_eq_false_iff] at this; exact this.2
              clear hnum
              go_wp2_with (first | (go_at_call 87; refine (scan_ok s p q ⟨k, tx, n, pos⟩ _ HG.out hs9 hlt Hsc.out).mono ?_; rintro e w1 ⟨rfl, hb⟩; have hown1 := ownsRow_below Hown.out hb; have Hown1 := Lib.hid hown1; clear hown1; have Hb := Lib.hid hb; clear hb) | (go_at_call 86; refine (indexByte_c _ _ _).mono ?_; rintro e w' ⟨rfl, rfl⟩) | (at_builtin; refine wpList_append_own _ rfl _ _ 61 rfl w.heap.size 110 i0 _ 4 40 Tryz.underlying61 hi hz0 hz1 hz2 rfl (by decide) _ _ _ rfl ((Hown1.out.alloc _).alloc _) ⟨w1.heap.size + 1, 0, none⟩ 1 1 (Tok.vals ⟨k, tx, n, pos⟩) rfl rfl ?c1 ?c2 ?c3 ?c4 ?c5 ?_))
              case c1 => exact cell_row_new2 w1 _ (Tok.vals ⟨k, tx, n, pos⟩) 110
              case c2 => intro u hu; simp [Tok.vals] at hu; rcases hu with rfl | rfl | rfl | rfl <;> rfl
              case c3 => unfold maxLen; omega
              case c4 => omega
              case c5 => have := Hbel.out.size; have := Hb.out.size; simp; omega
              intro v' w2 hown' hgrow _
              have hbk := hgrow.block w1.heap.size (by simp; omega) (fun h => by have := ownBlock_lt Hown.out h.symm; have := Hb.out.size; omega)
              have hbk2 : w2.heap[w1.heap.size]? = some (.cells #[.int .i64 k, .string ⟨tx.toArray⟩, .int .i64 n, .int .i64 pos] 110 (0, 0)) := hbk.trans (by rw [Below.heap_alloc _ _ _ (by simp)]; exact heap_new _ _)
              have hcell := cell_of_blk hbk2 0
              simp only [List.getElem?_toArray, List.getElem?_cons_zero] at hcell
              have hbel2 : Below w.heap.size w w2 := (((Hbel.out.trans (Hb.out.mono Hbel.out.size)).alloc (by have := Hbel.out.size; have := Hb.out.size; omega) _).alloc (by have := Hbel.out.size; have := Hb.out.size; simp; omega) _).grown hgrow (by have := Hbel.out.size; have := Hb.out.size; simp; omega) (fun j hj => ownBlock_ge Hown.out hj)
              have Hbel2 := Lib.hid hbel2; clear hbel2
              have Hown2 := Lib.hid hown'; clear hown'
              clear hgrow hbk hbk2
              go_wp2_with (first | (go_at_call 85; refine (skip_is s q q2 _ hs9 hq2 Hq3.out).mono ?_; rintro e w' ⟨rfl, rfl⟩))
              exact ⟨⟨f, q2, -1, acc ++ [⟨k, tx, n, pos⟩], rfl, rfl, hsk2, by omega, by simp; omega, by omega, by omega, He.out, by simpa using Hown2.out, Hbel2.out⟩, by simp [intOf]; omega⟩
            | true =>
              rw [hnum, if_pos rfl] at he
              have He := Lib.hid he; clear he
              have hk3 : k = 2 ∨ k = 6 ∨ k = 7 := by have := hnum; unfold Lx.isNum at this; simp only [Bool.or_eq_true, beq_iff_eq] at this; omega
              clear hnum
              rcases hk3 with rfl | rfl | rfl
              · go_wp2_with (first | (go_at_call 87; refine (scan_ok s p q ⟨2, tx, n, pos⟩ _ HG.out hs9 hlt Hsc.out).mono ?_; rintro e w1 ⟨rfl, hb⟩; have hown1 := ownsRow_below Hown.out hb; have Hown1 := Lib.hid hown1; clear hown1; have Hb := Lib.hid hb; clear hb) | (go_at_call 86; refine (indexByte_c _ _ _).mono ?_; rintro e w' ⟨rfl, rfl⟩) | (at_builtin; refine wpList_append_own _ rfl _ _ 61 rfl w.heap.size 110 i0 _ 4 40 Tryz.underlying61 hi hz0 hz1 hz2 rfl (by decide) _ _ _ rfl ((Hown1.out.alloc _).alloc _) ⟨w1.heap.size + 1, 0, none⟩ 1 1 (Tok.vals ⟨2, tx, n, pos⟩) rfl rfl ?c1 ?c2 ?c3 ?c4 ?c5 ?_))
                case c1 => exact cell_row_new2 w1 _ (Tok.vals ⟨2, tx, n, pos⟩) 110
                case c2 => intro u hu; simp [Tok.vals] at hu; rcases hu with rfl | rfl | rfl | rfl <;> rfl
                case c3 => unfold maxLen; omega
                case c4 => omega
                case c5 => have := Hbel.out.size; have := Hb.out.size; simp; omega
                intro v' w2 hown' hgrow _
                have hbk := hgrow.block w1.heap.size (by simp; omega) (fun h => by have := ownBlock_lt Hown.out h.symm; have := Hb.out.size; omega)
                have hbk2 : w2.heap[w1.heap.size]? = some (.cells #[.int .i64 2, .string ⟨tx.toArray⟩, .int .i64 n, .int .i64 pos] 110 (0, 0)) := hbk.trans (by rw [Below.heap_alloc _ _ _ (by simp)]; exact heap_new _ _)
                have hcell := cell_of_blk hbk2 0
                simp only [List.getElem?_toArray, List.getElem?_cons_zero] at hcell
                have hbel2 : Below w.heap.size w w2 := (((Hbel.out.trans (Hb.out.mono Hbel.out.size)).alloc (by have := Hbel.out.size; have := Hb.out.size; omega) _).alloc (by have := Hbel.out.size; have := Hb.out.size; simp; omega) _).grown hgrow (by have := Hbel.out.size; have := Hb.out.size; simp; omega) (fun j hj => ownBlock_ge Hown.out hj)
                have Hbel2 := Lib.hid hbel2; clear hbel2
                have Hown2 := Lib.hid hown'; clear hown'
                clear hgrow hbk hbk2
                go_wp2_with (first | (go_at_call 85; refine (skip_is s q q2 _ hs9 hq2 Hq3.out).mono ?_; rintro e w' ⟨rfl, rfl⟩))
                exact ⟨⟨f, q2, q, acc ++ [⟨2, tx, n, pos⟩], rfl, rfl, hsk2, by omega, by simp; omega, by omega, by omega, He.out, by simpa using Hown2.out, Hbel2.out⟩, by simp [intOf]; omega⟩
              · go_wp2_with (first | (go_at_call 87; refine (scan_ok s p q ⟨6, tx, n, pos⟩ _ HG.out hs9 hlt Hsc.out).mono ?_; rintro e w1 ⟨rfl, hb⟩; have hown1 := ownsRow_below Hown.out hb; have Hown1 := Lib.hid hown1; clear hown1; have Hb := Lib.hid hb; clear hb) | (go_at_call 86; refine (indexByte_c _ _ _).mono ?_; rintro e w' ⟨rfl, rfl⟩) | (at_builtin; refine wpList_append_own _ rfl _ _ 61 rfl w.heap.size 110 i0 _ 4 40 Tryz.underlying61 hi hz0 hz1 hz2 rfl (by decide) _ _ _ rfl ((Hown1.out.alloc _).alloc _) ⟨w1.heap.size + 1, 0, none⟩ 1 1 (Tok.vals ⟨6, tx, n, pos⟩) rfl rfl ?c1 ?c2 ?c3 ?c4 ?c5 ?_))
                case c1 => exact cell_row_new2 w1 _ (Tok.vals ⟨6, tx, n, pos⟩) 110
                case c2 => intro u hu; simp [Tok.vals] at hu; rcases hu with rfl | rfl | rfl | rfl <;> rfl
                case c3 => unfold maxLen; omega
                case c4 => omega
                case c5 => have := Hbel.out.size; have := Hb.out.size; simp; omega
                intro v' w2 hown' hgrow _
                have hbk := hgrow.block w1.heap.size (by simp; omega) (fun h => by have := ownBlock_lt Hown.out h.symm; have := Hb.out.size; omega)
                have hbk2 : w2.heap[w1.heap.size]? = some (.cells #[.int .i64 6, .string ⟨tx.toArray⟩, .int .i64 n, .int .i64 pos] 110 (0, 0)) := hbk.trans (by rw [Below.heap_alloc _ _ _ (by simp)]; exact heap_new _ _)
                have hcell := cell_of_blk hbk2 0
                simp only [List.getElem?_toArray, List.getElem?_cons_zero] at hcell
                have hbel2 : Below w.heap.size w w2 := (((Hbel.out.trans (Hb.out.mono Hbel.out.size)).alloc (by have := Hbel.out.size; have := Hb.out.size; omega) _).alloc (by have := Hbel.out.size; have := Hb.out.size; simp; omega) _).grown hgrow (by have := Hbel.out.size; have := Hb.out.size; simp; omega) (fun j hj => ownBlock_ge Hown.out hj)
                have Hbel2 := Lib.hid hbel2; clear hbel2
                have Hown2 := Lib.hid hown'; clear hown'
                clear hgrow hbk hbk2
                go_wp2_with (first | (go_at_call 85; refine (skip_is s q q2 _ hs9 hq2 Hq3.out).mono ?_; rintro e w' ⟨rfl, rfl⟩))
                exact ⟨⟨f, q2, q, acc ++ [⟨6, tx, n, pos⟩], rfl, rfl, hsk2, by omega, by simp; omega, by omega, by omega, He.out, by simpa using Hown2.out, Hbel2.out⟩, by simp [intOf]; omega⟩
              · go_wp2_with (first | (go_at_call 87; refine (scan_ok s p q ⟨7, tx, n, pos⟩ _ HG.out hs9 hlt Hsc.out).mono ?_; rintro e w1 ⟨rfl, hb⟩; have hown1 := ownsRow_below Hown.out hb; have Hown1 := Lib.hid hown1; clear hown1; have Hb := Lib.hid hb; clear hb) | (go_at_call 86; refine (indexByte_c _ _ _).mono ?_; rintro e w' ⟨rfl, rfl⟩) | (at_builtin; refine wpList_append_own _ rfl _ _ 61 rfl w.heap.size 110 i0 _ 4 40 Tryz.underlying61 hi hz0 hz1 hz2 rfl (by decide) _ _ _ rfl ((Hown1.out.alloc _).alloc _) ⟨w1.heap.size + 1, 0, none⟩ 1 1 (Tok.vals ⟨7, tx, n, pos⟩) rfl rfl ?c1 ?c2 ?c3 ?c4 ?c5 ?_))
                case c1 => exact cell_row_new2 w1 _ (Tok.vals ⟨7, tx, n, pos⟩) 110
                case c2 => intro u hu; simp [Tok.vals] at hu; rcases hu with rfl | rfl | rfl | rfl <;> rfl
                case c3 => unfold maxLen; omega
                case c4 => omega
                case c5 => have := Hbel.out.size; have := Hb.out.size; simp; omega
                intro v' w2 hown' hgrow _
                have hbk := hgrow.block w1.heap.size (by simp; omega) (fun h => by have := ownBlock_lt Hown.out h.symm; have := Hb.out.size; omega)
                have hbk2 : w2.heap[w1.heap.size]? = some (.cells #[.int .i64 7, .string ⟨tx.toArray⟩, .int .i64 n, .int .i64 pos] 110 (0, 0)) := hbk.trans (by rw [Below.heap_alloc _ _ _ (by simp)]; exact heap_new _ _)
                have hcell := cell_of_blk hbk2 0
                simp only [List.getElem?_toArray, List.getElem?_cons_zero] at hcell
                have hbel2 : Below w.heap.size w w2 := (((Hbel.out.trans (Hb.out.mono Hbel.out.size)).alloc (by have := Hbel.out.size; have := Hb.out.size; omega) _).alloc (by have := Hbel.out.size; have := Hb.out.size; simp; omega) _).grown hgrow (by have := Hbel.out.size; have := Hb.out.size; simp; omega) (fun j hj => ownBlock_ge Hown.out hj)
                have Hbel2 := Lib.hid hbel2; clear hbel2
                have Hown2 := Lib.hid hown'; clear hown'
                clear hgrow hbk hbk2
                go_wp2_with (first | (go_at_call 85; refine (skip_is s q q2 _ hs9 hq2 Hq3.out).mono ?_; rintro e w' ⟨rfl, rfl⟩))
                exact ⟨⟨f, q2, q, acc ++ [⟨7, tx, n, pos⟩], rfl, rfl, hsk2, by omega, by simp; omega, by omega, by omega, He.out, by simpa using Hown2.out, Hbel2.out⟩, by simp [intOf]; omega⟩
end Go.Proofs.YthpanohdfelkhaaGreatDoor
