/- The parser's block: the other two shapes that ParserDepth needs. The parser's state (PS) is given; of what lay in memory only the parser's own block changes. -/
import Derived.Test.YthpanohdfelkhaaGreatDoorPar8
namespace Go.Proofs.YthpanohdfelkhaaGreatDoor
open Go.RowKit
theorem nop_words : Words ⟨#[110, 111, 112]⟩ [[110, 111, 112]] := ⟨by decide, ascii_of (by decide), by decide +kernel⟩
theorem dead_words : Words ⟨#[100, 101, 97, 100]⟩ [[100, 101, 97, 100]] := ⟨by decide, ascii_of (by decide), by decide +kernel⟩
set_option maxRecDepth 100000 in
set_option maxHeartbeats 1000000 in
/-- a block whose first statement names no local -/
theorem block_dead (p tb : Nat) (c t : Tok) (ts : List Tok) (bv : BV) (ls : List (List UInt8 × Int)) (i : Int) (w : World) (hG : Glob w) (h : PS w p tb (c :: t :: ts) bv) (hp13 : 13 ≤ p) (hlen : ls.length ≤ 1000000000) (hl : LocSl w bv.lc ls) (hlp : ∀ o n m, bv.lc ≠ .slice (some ⟨p, o, none⟩) n m) (hc : isIdx c jumpWords < 0) (hc1 : isIdx c [[110, 111, 112]] < 0) (hc2 : 0 ≤ isIdx c [[100, 101, 97, 100]]) (hk : (t.k != 3) = false) (hi : idxN ls t.tx 0 = i) (hi0 : i < 0) :
    Calls Tryz.prog 56 #[.pointer (some ⟨p, 0, none⟩)] w fun e w' => e = FailV t.pos 20 ∧ Fr p w w' := by
  have hp := h.plt
  have htb := h.tlt
  have hps0 : ∀ o o', PS ((w.alloc o).alloc o') p tb (c :: t :: ts) bv := fun o o' => (h.alloc o).alloc o'
  have HG0 : ∀ o o', Hid (Glob ((w.alloc o).alloc o')) := fun o o' => (hG.alloc o).alloc o'
  have hl0 : ∀ o o', LocSl ((w.alloc o).alloc o') bv.lc ls := fun o o' => hl.below (((Below.refl _ _).alloc (Nat.le_refl _) o).alloc (by simp) o')
  have Hi := Lib.hid hi; clear hi
  clear h hG hl
  go_enter Tryz.func56, Tryz.ntmps56
  go_wp2_with fail
  go_step3
  go_wp2_with fail
  go_step3
  go_wp2_with fail
  go_loopw [4, 5, 6] (fun _ _ _ wr => wr = (w.alloc (.cells (blkCells nilS 0) 80)).alloc (.cells (blkCells nilS 0) 80)) (fun _ _ _ _ => 0)
  case atStart => rfl
  case round =>
    subst hrel
    go_wp2_with (first
      | (go_at_call 92; refine (accept_out p tb c _ bv _ jumpWords _ (HG0 _ _).out (hps0 _ _) jump_words (by decide) hc).mono ?_; rintro e w1 ⟨rfl, hb1⟩; have hps1 := (hps0 _ _).keep hb1; have HG1 : Hid (Glob w1) := (HG0 _ _).out.below hb1; have hl1 := (hl0 _ _).below hb1)
      | (go_at_call 47; first
        | (have := HG2; refine (maybe_in p tb c _ bv _ [[100, 101, 97, 100]] _ HG2.out hps2 dead_words (by decide) hc2 (by simp)).mono ?_; rintro e w3 ⟨rfl, hps3, hfr3⟩; have HG3 : Hid (Glob w3) := HG2.out.fr hfr3 hp13; have hl3 := hl2.fr hfr3 hlp)
        | (refine (maybe_out p tb c _ bv _ [[110, 111, 112]] _ (HG1.out.alloc _) (hps1.alloc _) nop_words (by decide) hc1).mono ?_; rintro e w2 ⟨rfl, hb2⟩; have hps2 := (hps1.alloc _).keep hb2; have HG2 : Hid (Glob w2) := (HG1.out.alloc _).below hb2; have hl2 := (hl1.below ((Below.refl _ _).alloc (Nat.le_refl _) _)).below hb2))
      | (go_at_call 98; refine (local_unknown p tb t ts bv ls i _ hps3 hlen hl3 hk Hi.out hi0).mono ?_; rintro e w4 ⟨rfl, hfr4⟩))
    exact ⟨rfl, rfl, (((((Fr.refl _ _).alloc _).alloc _).trans (Fr.of_below hb1)).alloc _).trans ((Fr.of_below hb2).trans (hfr3.trans hfr4))⟩
theorem eq_words : Words ⟨#[61]⟩ [[61]] := ⟨by decide, ascii_of (by decide), by decide +kernel⟩
theorem call_words : Words ⟨#[99, 97, 108, 108]⟩ [[99, 97, 108, 108]] := ⟨by decide, ascii_of (by decide), by decide +kernel⟩
theorem semi1_words : Words ⟨#[59]⟩ [[59]] := ⟨by decide, ascii_of (by decide), by decide +kernel⟩
theorem one_each {x : List UInt8} (h : Words ⟨x.toArray⟩ [x]) : ∀ y ∈ [x], Words ⟨y.toArray⟩ [y] := by
  intro y hy; simp at hy; subst hy; exact h
/-- the tokens of the shape '%x = copy %x ..; return; }' -/
structure Shape (ls : List (List UInt8 × Int)) (k : Nat) (v q c u : Tok) (ts : List Tok) (s j : Tok) (us rest : List Tok) : Prop where
  v1 : isIdx v jumpWords < 0
  v2 : isIdx v [[110, 111, 112]] < 0
  v3 : isIdx v [[100, 101, 97, 100]] < 0
  v4 : (v.k != 3) = false
  v5 : idxN ls v.tx 0 = 0
  q1 : isIdx q [[46]] < 0
  q2 : 0 ≤ isIdx q [[61]]
  c1 : isIdx c [[99, 97, 108, 108]] < 0
  c2 : isIdx c opWords = 0
  c3 : isIdx c [[38]] < 0
  c4 : isIdx c unWords < 0
  c5 : isIdx c biWords < 0
  c6 : isIdx c [[40]] < 0
  u1 : (u.k != 3) = false
  u2 : idxN ls u.tx 0 = 0
  ds : Dots k ts (s :: j :: us)
  s1 : isIdx s [[46]] < 0
  s2 : 0 ≤ isIdx s [[59]]
  j1 : isIdx j jumpWords = 2
  us1 : us ≠ []
  us2 : Ended us
  us3 : expGo semiWords us = .ok rest
  e1 : Ended (q :: c :: u :: ts)
  e2 : Ended (s :: j :: us)
theorem stmtInfo : (Tryz.prog.info? 127).map (fun i => (i.zero, i.size, i.bytes)) = some (some (.agg #[.int .i64 0, .int .i64 0, nilS, .int .i64 0, .int .i64 0, .int .i64 0, .bool false, .int .i64 0, nilS, nilS, .int .i64 0]), 11, 136) := by kernel_rfl
theorem box11 {w : World} {b : Nat} {x0 x1 x2 x3 x4 x5 x6 x7 x8 x9 x10 : Value} {t : TypeId} (h : w.heap[b]? = some (.cells #[x0, x1, x2, x3, x4, x5, x6, x7, x8, x9, x10] t (0, 0))) :
    w.cell? ⟨b, 0, none⟩ = some x0 ∧ w.cell? ⟨b, 1, none⟩ = some x1 ∧ w.cell? ⟨b, 2, none⟩ = some x2 ∧ w.cell? ⟨b, 3, none⟩ = some x3 ∧ w.cell? ⟨b, 4, none⟩ = some x4 ∧ w.cell? ⟨b, 5, none⟩ = some x5 ∧ w.cell? ⟨b, 6, none⟩ = some x6 ∧ w.cell? ⟨b, 7, none⟩ = some x7 ∧ w.cell? ⟨b, 8, none⟩ = some x8 ∧ w.cell? ⟨b, 9, none⟩ = some x9 ∧ w.cell? ⟨b, 10, none⟩ = some x10 :=
  ⟨by rw [cell_of_blk h]; rfl, by rw [cell_of_blk h]; rfl, by rw [cell_of_blk h]; rfl, by rw [cell_of_blk h]; rfl, by rw [cell_of_blk h]; rfl, by rw [cell_of_blk h]; rfl, by rw [cell_of_blk h]; rfl, by rw [cell_of_blk h]; rfl, by rw [cell_of_blk h]; rfl, by rw [cell_of_blk h]; rfl, by rw [cell_of_blk h]; rfl⟩
theorem sets11 {w : World} {b : Nat} {x0 x1 x2 x3 x4 x5 x6 x7 x8 x9 x10 : Value} {t : TypeId} (h : w.heap[b]? = some (.cells #[x0, x1, x2, x3, x4, x5, x6, x7, x8, x9, x10] t (0, 0))) (y0 y1 y2 y3 y4 y5 y6 y7 y8 y9 y10 : Value) :
    (((((((((((w.setCell ⟨b, 0, none⟩ y0).setCell ⟨b, 1, none⟩ y1).setCell ⟨b, 2, none⟩ y2).setCell ⟨b, 3, none⟩ y3).setCell ⟨b, 4, none⟩ y4).setCell ⟨b, 5, none⟩ y5).setCell ⟨b, 6, none⟩ y6).setCell ⟨b, 7, none⟩ y7).setCell ⟨b, 8, none⟩ y8).setCell ⟨b, 9, none⟩ y9).setCell ⟨b, 10, none⟩ y10).heap[b]? = some (.cells #[y0, y1, y2, y3, y4, y5, y6, y7, y8, y9, y10] t (0, 0)) := by
  simp [World.setCell, Array.getElem?_modify, h]
theorem sets7 {w : World} {b : Nat} {x0 x1 x2 x3 x4 x5 x6 x7 x8 x9 x10 : Value} {t : TypeId} (h : w.heap[b]? = some (.cells #[x0, x1, x2, x3, x4, x5, x6, x7, x8, x9, x10] t (0, 0))) (y3 y4 y5 y6 y7 y8 y9 : Value) :
    (((((((w.setCell ⟨b, 3, none⟩ y3).setCell ⟨b, 4, none⟩ y4).setCell ⟨b, 5, none⟩ y5).setCell ⟨b, 6, none⟩ y6).setCell ⟨b, 7, none⟩ y7).setCell ⟨b, 8, none⟩ y8).setCell ⟨b, 9, none⟩ y9).heap[b]? = some (.cells #[x0, x1, x2, y3, y4, y5, y6, y7, y8, y9, x10] t (0, 0)) := by
  simp [World.setCell, Array.getElem?_modify, h]
theorem expGo1 {x : List UInt8} {t : Tok} {ts : List Tok} (h : 0 ≤ isIdx t [x]) : expGo [x] (t :: ts) = .ok ts := by unfold expGo; rw [if_pos h]; rfl
theorem Fr.own {p : Nat} {w w' : World} {base : Nat} {e : TypeId} {size : Nat} {v : Value} {n : Nat} {xs : List Value} (h : Fr p w w') (g : w.ownsRow base e size v n xs) (hp : p < base) : w'.ownsRow base e size v n xs :=
  ownsRow_block g fun k hk => h.block k (ownBlock_lt g hk) (by have := ownBlock_ge g hk; omega)
theorem Fr.at {p : Nat} {w w' : World} {b : Nat} {o : Obj} (h : Fr p w w') (hb : w.heap[b]? = some o) (hp : b ≠ p) : w'.heap[b]? = some o := (h.block b (lt_of_blk hb) hp).trans hb
theorem Dots.len {k : Nat} : ∀ {ts rest : List Tok}, Dots k ts rest → ts.length = 2 * k + rest.length := by
  induction k with
  | zero => intro ts rest h; rw [show ts = rest from h]; omega
  | succ k ih => intro ts rest h; obtain ⟨d, s, us, rfl, _, _, h⟩ := h; have := ih h; simp; omega
/-- the cells of the statement '%x = copy %x ..' -/
def stmtVals (sa0 : Option Addr) (sc0 a : Nat) : List Value := [.int .i64 0, .int .i64 0, .slice sa0 0 sc0, .int .i64 0, .int .i64 0, .int .i64 0, .bool false, .int .i64 0, nilS, .slice (some ⟨a, 0, none⟩) 1 1, .int .i64 0]
/-- what the statements' slice holds -/
def StAt (w : World) (base : Nat) (k : Nat) (st : Value) : Prop :=
  ∃ sa0 sc0 a sa sc, w.ownsRow base 127 11 st 1 (stmtVals sa0 sc0 a) ∧ base ≤ a ∧ w.heap[a]? = some (.cells #[.int .i64 0, .int .i64 0, .slice sa k sc, .int .i64 0] 181 (0, 0)) ∧ w.ownsRow base 191 2 (.slice sa k sc) k (zeros (2 * k))
theorem StAt.fr {p : Nat} {w w' : World} {base k : Nat} {st : Value} (h : StAt w base k st) (g : Fr p w w') (hp : p < base) : StAt w' base k st := by
  obtain ⟨sa0, sc0, a, sa, sc, h1, h2, h3, h4⟩ := h
  exact ⟨sa0, sc0, a, sa, sc, g.own h1 hp, h2, g.at h3 (by omega), g.own h4 hp⟩
theorem StAt.only {b : Nat} {w w' : World} {base k : Nat} {st : Value} {cs : Array Value} {t : TypeId} {f : Nat × Nat} (h : StAt w base k st) (g : Only b w w') (hb : w.heap[b]? = some (.cells cs t f)) (h1 : t ≠ 127) (h2 : t ≠ 181) (h3 : t ≠ 191) : StAt w' base k st := by
  obtain ⟨sa0, sc0, a, sa, sc, g1, g2, g3, g4⟩ := h
  refine ⟨sa0, sc0, a, sa, sc, g.own g1 (own_ne g1 hb h1), g2, (g.block a ?_).trans g3, g.own g4 (own_ne g4 hb h3)⟩
  intro e; subst e
  rw [hb] at g3; injection g3 with g3; injection g3 with _ g3; exact h2 g3
theorem StAt.slice {w : World} {base k : Nat} {st : Value} (h : StAt w base k st) : ∃ g c, st = .slice (some ⟨g, 0, none⟩) 1 c := by
  obtain ⟨_, _, _, _, _, h1, _⟩ := h
  obtain ⟨g, c, rfl, _⟩ := ownsRow_cells h1
  exact ⟨g, c, rfl⟩
def nilSt (b : Nat) (w : World) : Nat := match w.cell? ⟨b, 0, none⟩ with | some (.slice none _ _) => 1 | _ => 0
def BkRel (p tb : Nat) (bv : BV) (k : Nat) (us : List Tok) (w : World) (wr : World) : Prop :=
  wr = (w.alloc (.cells (blkCells nilS 0) 80)).alloc (.cells (blkCells nilS 0) 80) ∨
  ∃ st, PS wr p tb us bv ∧ Fr p w wr ∧ wr.heap[w.heap.size]? = some (.cells (blkCells nilS 0) 80 (0, 0)) ∧ wr.heap[w.heap.size + 1]? = some (.cells (blkCells st 0) 80 (0, 0)) ∧ StAt wr w.heap.size k st
set_option maxRecDepth 100000 in
set_option maxHeartbeats 2000000 in
theorem block_assign (p tb : Nat) (k : Nat) (v q c u : Tok) (ts : List Tok) (s j : Tok) (us rest : List Tok) (bv : BV) (ls : List (List UInt8 × Int)) (w : World) (hG : Glob w) (h : PS w p tb (v :: q :: c :: u :: ts) bv) (hp13 : 13 ≤ p) (hlen : ls.length ≤ 1000000000) (hl : LocSl w bv.lc ls) (hlp : ∀ o n m, bv.lc ≠ .slice (some ⟨p, o, none⟩) n m) (hS : Shape ls k v q c u ts s j us rest) (hk32 : k ≤ 32) :
    Calls Tryz.prog 56 #[.pointer (some ⟨p, 0, none⟩)] w fun e w' => ∃ st, e = .returned (.agg (blkCells st 2)) ∧ PS w' p tb rest bv ∧ Fr p w w' ∧ StAt w' w.heap.size k st := by
  have hp := h.plt
  have htb := h.tlt
  have hps0 : ∀ o o', PS ((w.alloc o).alloc o') p tb (v :: q :: c :: u :: ts) bv := fun o o' => (h.alloc o).alloc o'
  have HG0 : ∀ o o', Hid (Glob ((w.alloc o).alloc o')) := fun o o' => (hG.alloc o).alloc o'
  have hl0 : ∀ o o', LocSl ((w.alloc o).alloc o') bv.lc ls := fun o o' => hl.below (((Below.refl _ _).alloc (Nat.le_refl _) o).alloc (by simp) o')
  have HS := Lib.hid hS; clear hS
  have HG := Lib.hid hG
  clear h hG hl
  go_enter Tryz.func56, Tryz.ntmps56
  go_wp2_with fail
  go_step3
  go_wp2_with fail
  go_step3
  go_wp2_with fail
  go_loopw [4, 5, 6] (fun _ _ _ wr => BkRel p tb bv k (j :: us) w wr) (fun _ _ _ wr => nilSt (w.heap.size + 1) wr)
  case atStart => exact .inl rfl
  case round =>
    rcases hrel with rfl | ⟨st, hps, hfr, hR, hB, hst⟩
    · go_wp2_with (first
        | (go_at_call 92; refine (accept_out p tb v _ bv _ jumpWords _ (HG0 _ _).out (hps0 _ _) jump_words (by decide) HS.out.v1).mono ?_; rintro e w1 ⟨rfl, hb1⟩; have hps1 := (hps0 _ _).keep hb1; have HG1 : Hid (Glob w1) := (HG0 _ _).out.below hb1; have hl1 := (hl0 _ _).below hb1; have F1 : Fr p w w1 := ((((Fr.refl p w).alloc _).alloc _).trans (Fr.of_below hb1)); have hs1 := hb1.size; simp only [World.size_alloc] at hs1; have hR1 := (Fr.of_below (p := p) hb1).at (two_new0 w _ _) (by omega); have hB1 := (Fr.of_below (p := p) hb1).at (two_new1 w _ _) (by omega))
        | (go_at_call 47; first
          | (have := HG5; refine (maybe_out p tb c _ bv _ [[99, 97, 108, 108]] _ HG5.out hps5 call_words (by decide) HS.out.c1).mono ?_; rintro e w6 ⟨rfl, hb6⟩; have hps6 := hps5.keep hb6; have HG6 : Hid (Glob w6) := HG5.out.below hb6; have hl6 := hl5.below hb6)
          | (have := HG2; refine (maybe_out p tb v _ bv _ [[100, 101, 97, 100]] _ HG2.out hps2 dead_words (by decide) HS.out.v3).mono ?_; rintro e w3 ⟨rfl, hb3⟩; have hps3 := hps2.keep hb3; have HG3 : Hid (Glob w3) := HG2.out.below hb3; have hl3 := hl2.below hb3)
          | (refine (maybe_out p tb v _ bv _ [[110, 111, 112]] _ (HG1.out.alloc _) (hps1.alloc _) nop_words (by decide) HS.out.v2).mono ?_; rintro e w2 ⟨rfl, hb2⟩; have hps2 := (hps1.alloc _).keep hb2; have HG2 : Hid (Glob w2) := (HG1.out.alloc _).below hb2; have hl2 := (hl1.below ((Below.refl _ _).alloc (Nat.le_refl _) _)).below hb2))
        | (go_at_call 77; refine (place_shallow p tb v (q :: c :: u :: ts) q (c :: u :: ts) bv ls 0 0 _ HG3.out hps3 hp13 hlen hl3 HS.out.v4 HS.out.v5 (by decide) rfl HS.out.q1 (by omega)).mono ?_; rintro e w4 ⟨sa0, sc0, rfl, hfr4, hps4, hown4⟩; have hs2 := hb2.size; have hs3 := hb3.size; simp only [World.size_alloc] at hs2; have F4 : Fr p w1 w4 := (((Fr.refl p w1).alloc _).trans (Fr.of_below hb2)).trans ((Fr.of_below hb3).trans hfr4); have hB4 := hfr4.at ((Fr.of_below (p := p) hb3).at ((Fr.of_below (p := p) hb2).at (heap_new w1 _) (by omega)) (by omega)) (by omega); obtain ⟨b0, b1, b2, b3, b4, b5, b6, b7, b8, b9, b10⟩ := box11 hB4; have hz4 := frozen_of_blk hB4; have HG4 : Hid (Glob w4) := HG3.out.fr hfr4 hp13; have hl4 := hl3.fr hfr4 hlp; have hp1 : p < w1.heap.size := hps1.plt; have htb1 : tb < w1.heap.size := hps1.tlt; have hs4 := hfr4.size)
        | (go_at_call 45; first
          | (have := HG7; have hon7 : Only w1.heap.size w7 ((((((((w7.setCell ⟨w1.heap.size, 3, none⟩ (.int .i64 0)).setCell ⟨w1.heap.size, 4, none⟩ (.int .i64 0)).setCell ⟨w1.heap.size, 5, none⟩ (.int .i64 0)).setCell ⟨w1.heap.size, 6, none⟩ (.bool false)).setCell ⟨w1.heap.size, 7, none⟩ (.int .i64 0)).setCell ⟨w1.heap.size, 8, none⟩ nilS).setCell ⟨w1.heap.size, 9, none⟩ (.slice (some ⟨g, 0, none⟩) 1 1))) := (by ((repeat with_reducible apply Only.set); with_reducible exact Only.refl _ _)); have hq7 : Hid (Fr p w1 ((((((((w7.setCell ⟨w1.heap.size, 3, none⟩ (.int .i64 0)).setCell ⟨w1.heap.size, 4, none⟩ (.int .i64 0)).setCell ⟨w1.heap.size, 5, none⟩ (.int .i64 0)).setCell ⟨w1.heap.size, 6, none⟩ (.bool false)).setCell ⟨w1.heap.size, 7, none⟩ (.int .i64 0)).setCell ⟨w1.heap.size, 8, none⟩ nilS).setCell ⟨w1.heap.size, 9, none⟩ (.slice (some ⟨g, 0, none⟩) 1 1)))) := hon7.fr (F5.trans F7) (.inl (Nat.le_refl _)); have hC7 := sets7 hB7 (.int .i64 0) (.int .i64 0) (.int .i64 0) (.bool false) (.int .i64 0) nilS (.slice (some ⟨g, 0, none⟩) 1 1); refine (expect_ok p tb _ _ bv _ [[59]] _ (hon7.glob HG7.out (by omega)) (hon7.ps hps7 (by omega) (by omega)) hp13 semi1_words (by decide) (one_each semi1_words) HS.out.e2 (expGo1 HS.out.s2)).mono ?_; rintro e w8 ⟨rfl, hps8, hfr8⟩; have F8 : Fr p w1 w8 := hq7.out.trans hfr8; have hB8 := hfr8.at hC7 (by omega); have Hown8 := Lib.hid (hfr8.own (hon7.own hown7 (own_ne hown7 hB7 (by decide))) (by omega)); have Hown08 := Lib.hid (hfr8.own (hon7.own Hown57.out (own_ne Hown57.out hB7 (by decide))) (by omega)); have Hop8 := Lib.hid (hfr8.at ((hon7.block g (by omega)).trans hop7) (by omega)); have hs8 := hfr8.size; rw [hon7.size] at hs8; clear hon7 hq7 hC7 hfr8 hown7 Hown5 Hown57 hop7 b0 b1 b2 b3 b4 b5 b6 b7 b8 b9 b10 hz7 hB7 hB5; obtain ⟨b0, b1, b2, b3, b4, b5, b6, b7, b8, b9, b10⟩ := box11 hB8; have hz8 := frozen_of_blk hB8; have hR8 := F8.at hR1 (by omega); have hB18 := F8.at hB1 (by omega); obtain ⟨e0, e1, e2, e3, e4, e5, e6⟩ := box7 hB18; have hz18 := frozen_of_blk hB18)
          | (have hon4 : Only w1.heap.size w4 ((((((((((((w4.setCell ⟨w1.heap.size, 0, none⟩ (.int .i64 0)).setCell ⟨w1.heap.size, 1, none⟩ (.int .i64 0)).setCell ⟨w1.heap.size, 2, none⟩ (.slice sa0 0 sc0)).setCell ⟨w1.heap.size, 3, none⟩ (.int .i64 0)).setCell ⟨w1.heap.size, 4, none⟩ (.int .i64 0)).setCell ⟨w1.heap.size, 5, none⟩ (.int .i64 0)).setCell ⟨w1.heap.size, 6, none⟩ (.bool false)).setCell ⟨w1.heap.size, 7, none⟩ (.int .i64 0)).setCell ⟨w1.heap.size, 8, none⟩ nilS).setCell ⟨w1.heap.size, 9, none⟩ nilS).setCell ⟨w1.heap.size, 10, none⟩ (.int .i64 0))) := (by ((repeat with_reducible apply Only.set); with_reducible exact Only.refl _ _)); have hq4 : Hid (Fr p w1 ((((((((((((w4.setCell ⟨w1.heap.size, 0, none⟩ (.int .i64 0)).setCell ⟨w1.heap.size, 1, none⟩ (.int .i64 0)).setCell ⟨w1.heap.size, 2, none⟩ (.slice sa0 0 sc0)).setCell ⟨w1.heap.size, 3, none⟩ (.int .i64 0)).setCell ⟨w1.heap.size, 4, none⟩ (.int .i64 0)).setCell ⟨w1.heap.size, 5, none⟩ (.int .i64 0)).setCell ⟨w1.heap.size, 6, none⟩ (.bool false)).setCell ⟨w1.heap.size, 7, none⟩ (.int .i64 0)).setCell ⟨w1.heap.size, 8, none⟩ nilS).setCell ⟨w1.heap.size, 9, none⟩ nilS).setCell ⟨w1.heap.size, 10, none⟩ (.int .i64 0)))) := hon4.fr F4 (.inl (Nat.le_refl _)); have hC4 := sets11 hB4 (.int .i64 0) (.int .i64 0) (.slice sa0 0 sc0) (.int .i64 0) (.int .i64 0) (.int .i64 0) (.bool false) (.int .i64 0) nilS nilS (.int .i64 0); have Hown4 := Lib.hid (hon4.own hown4 (own_ne hown4 hB4 (by decide))); refine (expect_ok p tb _ _ bv _ [[61]] _ (hon4.glob HG4.out (by omega)) (hon4.ps hps4 (by omega) (by omega)) hp13 eq_words (by decide) (one_each eq_words) HS.out.e1 (expGo1 HS.out.q2)).mono ?_; rintro e w5 ⟨rfl, hps5, hfr5⟩; have HG5 : Hid (Glob w5) := (hon4.glob HG4.out (by omega)).fr hfr5 hp13; have F5 : Fr p w1 w5 := hq4.out.trans hfr5; have hB5 := hfr5.at hC4 (by omega); have hl5 := hl1.fr F5 hlp; have Hown5 := Lib.hid (hfr5.own Hown4.out (by omega)); have hs5 := hfr5.size; rw [hon4.size] at hs5; clear hon4 hq4 hC4 hfr5 Hown4 b0 b1 b2 b3 b4 b5 b6 b7 b8 b9 b10 hz4 hB4 hown4))
        | (go_at_call 100; refine (rvalue_shallow p tb c u ts s (j :: us) bv ls 0 k _ HG6.out hps6 hp13 hlen hl6 hlp HS.out.c2 HS.out.c3 HS.out.c4 HS.out.c5 HS.out.c6 HS.out.u1 HS.out.u2 (by decide) HS.out.ds HS.out.s1 hk32).mono ?_; rintro e w7 ⟨sa, sc, g, rfl, hfr7, hps7, hown7, hg7, hop7⟩; have F7 : Fr p w5 w7 := (Fr.of_below hb6).trans hfr7; have hB7 := F7.at hB5 (by omega); obtain ⟨b0, b1, b2, b3, b4, b5, b6, b7, b8, b9, b10⟩ := box11 hB7; have hz7 := frozen_of_blk hB7; have HG7 : Hid (Glob w7) := HG6.out.fr hfr7 hp13; have Hown57 := Lib.hid (F7.own Hown5.out (by omega)); have hs6 := hb6.size; have hs7 := hfr7.size)
        | (at_builtin; obtain ⟨i0, hi, hz0, hz1, hz2⟩ := info_parts stmtInfo; refine wpList_append_own _ rfl _ _ 72 rfl w.heap.size 127 i0 _ 11 136 Tryz.underlying72 hi hz0 hz1 hz2 rfl (by decide) _ 0 [] rfl (World.ownsRow_nil _ _ _ _) ⟨w8.heap.size, 0, none⟩ 1 1 (stmtVals sa0 sc0 g) rfl rfl ?c1 ?c2 ?c3 ?c4 ?c5 ?_))
      case c1 => exact cell_row_new w8 (stmtVals sa0 sc0 g) 127
      case c2 => intro x hx; simp [stmtVals] at hx; rcases hx with rfl | rfl | rfl | rfl | rfl | rfl | rfl | rfl | rfl | rfl | rfl <;> rfl
      case c3 => unfold maxLen; omega
      case c4 => omega
      case c5 => simp; omega
      intro v' w9 hown9 hgrow _
      obtain ⟨g9, cap9, rfl, hge9, hlt9, hcap9, _⟩ := ownsRow_cells hown9
      have F9 : Fr p w8 w9 := ((Fr.refl p w8).alloc _).grown hgrow (by simp) (by intro k hk; cases hk)
      have hps9 := (hps8.alloc _).blocks hgrow.size (hgrow.block p (by simp; omega) (by simp [Value.ownBlock])) (hgrow.block tb (by simp; omega) (by simp [Value.ownBlock]))
      have hB9 := F9.at hB18 (by omega)
      have hR9 := F9.at hR8 (by omega)
      obtain ⟨k0, k1, k2, k3, k4, k5, k6⟩ := box7 hB9
      have hz9 := frozen_of_blk hB9
      have Hown9 := Lib.hid hown9
      have F89 := Lib.hid ((F1.trans F8).trans F9)
      have Hops := Lib.hid (F9.at Hop8.out (by omega))
      have Hownk := Lib.hid (F9.own (ownsRow_base Hown8.out (b := w.heap.size) (by omega)) (by omega))
      clear hgrow hown9 Hop8 Hown8 Hown08 F9
      go_wp2_with fail
      have hon9 : Only (w.heap.size + 1) w9 _ := (Only.refl (w.heap.size + 1) w9).set 0 (.slice (some ⟨g9, 0, none⟩) 1 cap9)
      refine ⟨.inr ⟨.slice (some ⟨g9, 0, none⟩) 1 cap9, hon9.ps hps9 (by omega) (by omega), hon9.fr F89.out (.inl (by omega)), (hon9.block _ (by omega)).trans hR9, ?_, sa0, sc0, g, sa, sc, hon9.own Hown9.out (own_ne Hown9.out hB9 (by decide)), by omega, (hon9.block g (by omega)).trans Hops.out, hon9.own Hownk.out (own_ne Hownk.out hB9 (by decide))⟩, ?_⟩
      · rw [setBlk _ _ _ _ _ _ _ hB9]; simp
      · have e1 : nilSt (w.heap.size + 1) ((w.alloc (.cells (blkCells nilS 0) 80)).alloc (.cells (blkCells nilS 0) 80)) = 1 := by
          unfold nilSt; rw [cell_of_blk (two_new1 w _ _)]; rfl
        rw [e1]
        unfold nilSt; rw [cell_of_blk (setBlk _ _ _ _ _ _ _ hB9)]; simp
    · have HGr : Hid (Glob wr) := HG.out.fr hfr hp13
      obtain ⟨g, cc, rfl⟩ := hst.slice
      have hR' := lt_of_blk hR
      have hB' := lt_of_blk hB
      go_wp2_with (first
        | (go_at_call 92; refine (accept_in p tb j us bv _ jumpWords 2 _ HGr.out hps jump_words (by decide) HS.out.j1 (by decide) HS.out.us1).mono ?_; rintro e w1 ⟨rfl, hps1, hfr1⟩; have HG1 : Hid (Glob w1) := HGr.out.fr hfr1 hp13)
          | (go_at_call 97; refine (jump_return p _).mono ?_; rintro e w2 ⟨rfl, hb2⟩; have hps2 := hps1.keep hb2; have HG2 : Hid (Glob w2) := HG1.out.below hb2; have hs1 := hfr1.size; have hs2 := hb2.size; have F2 : Fr p wr w2 := hfr1.trans (Fr.of_below hb2); have hB0 := F2.at hR (by omega); have hB1 := F2.at hB (by omega); have Hst2 := Lib.hid (hst.fr F2 hp); obtain ⟨b0, b1, b2, b3, b4, b5, b6⟩ := box7 hB1; have hfz := frozen_of_blk hB1)
          | (go_at_call 45; refine (expect_ok p tb us rest bv _ semiWords _ (Only.glob (b := w.heap.size + 1) (w := w2) (by ((repeat with_reducible apply Only.set); with_reducible exact Only.refl _ _)) HG2.out (by omega)) (Only.ps (b := w.heap.size + 1) (w := w2) (by ((repeat with_reducible apply Only.set); with_reducible exact Only.refl _ _)) hps2 (by omega) (by omega)) hp13 semi_words (by decide) semi_each HS.out.us2 HS.out.us3).mono ?_; rintro e w3 ⟨rfl, hps3, hfr3⟩; have hs3 := hfr3.size; have hon : Only (w.heap.size + 1) w2 _ := (((((((Only.refl (w.heap.size + 1) w2).set 1 (.int .i64 2)).set 2 nilS).set 3 nilS).set 4 (.int .i64 0)).set 5 nilS).set 6 (.string ⟨#[]⟩)); rw [hon.size] at hs3; have hC1 := (hfr3.block (w.heap.size + 1) (by rw [hon.size]; omega) (by omega)).trans (sets6 hB1 _ _ _ _ _ _); have hC0 := (hfr3.block w.heap.size (by rw [hon.size]; omega) (by omega)).trans ((hon.block w.heap.size (by omega)).trans hB0); obtain ⟨d0, d1, d2, d3, d4, d5, d6⟩ := box7 hC1; obtain ⟨e0, e1, e2, e3, e4, e5, e6⟩ := box7 hC0; have gz := frozen_of_blk hC1; have kz := frozen_of_blk hC0; have hfr4 := hfr3; have hfr5 := Fr.trans (hon.fr (hfr.trans F2) (.inl (by omega))) hfr4; have Hst3 := Lib.hid ((Hst2.out.only hon hB1 (by decide) (by decide) (by decide)).fr hfr4 hp); clear hon hfr3 hfr4 b0 b1 b2 b3 b4 b5 b6 hfz hB1 hB0))
      rw [Exit.noGoto_ret]
      have hon3 : Only w.heap.size w3 _ := ((((((((Only.refl w.heap.size w3).set 0 (.slice (some ⟨g, 0, none⟩) 1 cc)).set 1 (.int .i64 2)).set 2 nilS).set 3 nilS).set 4 (.int .i64 0)).set 5 nilS).set 6 (.string ⟨#[]⟩))
      refine bodyPost_ret (v := .agg (blkCells (.slice (some ⟨g, 0, none⟩) 1 cc) 2)) (by simp [results, Tryz.results56, go_sem, e0, e1, e2, e3, e4, e5, e6]) rfl ⟨.slice (some ⟨g, 0, none⟩) 1 cc, rfl, ?_, ?_, ?_⟩
      · exact hon3.ps hps3 (by omega) (by omega)
      · exact hon3.fr hfr5 (.inl (by omega))
      · exact Hst3.out.only hon3 hC0 (by decide) (by decide) (by decide)
set_option maxRecDepth 100000 in
set_option maxHeartbeats 2000000 in
theorem block_deep (p tb : Nat) (k : Nat) (v q c u : Tok) (ts : List Tok) (s j : Tok) (us rest : List Tok) (bv : BV) (ls : List (List UInt8 × Int)) (w : World) (hG : Glob w) (h : PS w p tb (v :: q :: c :: u :: ts) bv) (hp13 : 13 ≤ p) (hlen : ls.length ≤ 1000000000) (hl : LocSl w bv.lc ls) (hlp : ∀ o n m, bv.lc ≠ .slice (some ⟨p, o, none⟩) n m) (hS : Shape ls k v q c u ts s j us rest) (hk32 : 32 < k) :
    Calls Tryz.prog 56 #[.pointer (some ⟨p, 0, none⟩)] w fun e w' => e = FailV (dotPos 32 ts) 19 ∧ Fr p w w' := by
  have hp := h.plt
  have htb := h.tlt
  have hps0 : ∀ o o', PS ((w.alloc o).alloc o') p tb (v :: q :: c :: u :: ts) bv := fun o o' => (h.alloc o).alloc o'
  have HG0 : ∀ o o', Hid (Glob ((w.alloc o).alloc o')) := fun o o' => (hG.alloc o).alloc o'
  have hl0 : ∀ o o', LocSl ((w.alloc o).alloc o') bv.lc ls := fun o o' => hl.below (((Below.refl _ _).alloc (Nat.le_refl _) o).alloc (by simp) o')
  have HS := Lib.hid hS; clear hS
  have HG := Lib.hid hG
  clear h hG hl
  go_enter Tryz.func56, Tryz.ntmps56
  go_wp2_with fail
  go_step3
  go_wp2_with fail
  go_step3
  go_wp2_with fail
  go_loopw [4, 5, 6] (fun _ _ _ wr => wr = (w.alloc (.cells (blkCells nilS 0) 80)).alloc (.cells (blkCells nilS 0) 80)) (fun _ _ _ _ => 0)
  case atStart => rfl
  case round =>
    subst hrel
    go_wp2_with (first
        | (go_at_call 92; refine (accept_out p tb v _ bv _ jumpWords _ (HG0 _ _).out (hps0 _ _) jump_words (by decide) HS.out.v1).mono ?_; rintro e w1 ⟨rfl, hb1⟩; have hps1 := (hps0 _ _).keep hb1; have HG1 : Hid (Glob w1) := (HG0 _ _).out.below hb1; have hl1 := (hl0 _ _).below hb1; have F1 : Fr p w w1 := ((((Fr.refl p w).alloc _).alloc _).trans (Fr.of_below hb1)); have hs1 := hb1.size; simp only [World.size_alloc] at hs1; have hR1 := (Fr.of_below (p := p) hb1).at (two_new0 w _ _) (by omega); have hB1 := (Fr.of_below (p := p) hb1).at (two_new1 w _ _) (by omega))
        | (go_at_call 47; first
          | (have := HG5; refine (maybe_out p tb c _ bv _ [[99, 97, 108, 108]] _ HG5.out hps5 call_words (by decide) HS.out.c1).mono ?_; rintro e w6 ⟨rfl, hb6⟩; have hps6 := hps5.keep hb6; have HG6 : Hid (Glob w6) := HG5.out.below hb6; have hl6 := hl5.below hb6)
          | (have := HG2; refine (maybe_out p tb v _ bv _ [[100, 101, 97, 100]] _ HG2.out hps2 dead_words (by decide) HS.out.v3).mono ?_; rintro e w3 ⟨rfl, hb3⟩; have hps3 := hps2.keep hb3; have HG3 : Hid (Glob w3) := HG2.out.below hb3; have hl3 := hl2.below hb3)
          | (refine (maybe_out p tb v _ bv _ [[110, 111, 112]] _ (HG1.out.alloc _) (hps1.alloc _) nop_words (by decide) HS.out.v2).mono ?_; rintro e w2 ⟨rfl, hb2⟩; have hps2 := (hps1.alloc _).keep hb2; have HG2 : Hid (Glob w2) := (HG1.out.alloc _).below hb2; have hl2 := (hl1.below ((Below.refl _ _).alloc (Nat.le_refl _) _)).below hb2))
        | (go_at_call 77; refine (place_shallow p tb v (q :: c :: u :: ts) q (c :: u :: ts) bv ls 0 0 _ HG3.out hps3 hp13 hlen hl3 HS.out.v4 HS.out.v5 (by decide) rfl HS.out.q1 (by omega)).mono ?_; rintro e w4 ⟨sa0, sc0, rfl, hfr4, hps4, hown4⟩; have hs2 := hb2.size; have hs3 := hb3.size; simp only [World.size_alloc] at hs2; have F4 : Fr p w1 w4 := (((Fr.refl p w1).alloc _).trans (Fr.of_below hb2)).trans ((Fr.of_below hb3).trans hfr4); have hB4 := hfr4.at ((Fr.of_below (p := p) hb3).at ((Fr.of_below (p := p) hb2).at (heap_new w1 _) (by omega)) (by omega)) (by omega); obtain ⟨b0, b1, b2, b3, b4, b5, b6, b7, b8, b9, b10⟩ := box11 hB4; have hz4 := frozen_of_blk hB4; have HG4 : Hid (Glob w4) := HG3.out.fr hfr4 hp13; have hl4 := hl3.fr hfr4 hlp; have hp1 : p < w1.heap.size := hps1.plt; have htb1 : tb < w1.heap.size := hps1.tlt; have hs4 := hfr4.size)
        | (go_at_call 45; first
          | (have hon4 : Only w1.heap.size w4 ((((((((((((w4.setCell ⟨w1.heap.size, 0, none⟩ (.int .i64 0)).setCell ⟨w1.heap.size, 1, none⟩ (.int .i64 0)).setCell ⟨w1.heap.size, 2, none⟩ (.slice sa0 0 sc0)).setCell ⟨w1.heap.size, 3, none⟩ (.int .i64 0)).setCell ⟨w1.heap.size, 4, none⟩ (.int .i64 0)).setCell ⟨w1.heap.size, 5, none⟩ (.int .i64 0)).setCell ⟨w1.heap.size, 6, none⟩ (.bool false)).setCell ⟨w1.heap.size, 7, none⟩ (.int .i64 0)).setCell ⟨w1.heap.size, 8, none⟩ nilS).setCell ⟨w1.heap.size, 9, none⟩ nilS).setCell ⟨w1.heap.size, 10, none⟩ (.int .i64 0))) := (by ((repeat with_reducible apply Only.set); with_reducible exact Only.refl _ _)); have hq4 : Hid (Fr p w1 ((((((((((((w4.setCell ⟨w1.heap.size, 0, none⟩ (.int .i64 0)).setCell ⟨w1.heap.size, 1, none⟩ (.int .i64 0)).setCell ⟨w1.heap.size, 2, none⟩ (.slice sa0 0 sc0)).setCell ⟨w1.heap.size, 3, none⟩ (.int .i64 0)).setCell ⟨w1.heap.size, 4, none⟩ (.int .i64 0)).setCell ⟨w1.heap.size, 5, none⟩ (.int .i64 0)).setCell ⟨w1.heap.size, 6, none⟩ (.bool false)).setCell ⟨w1.heap.size, 7, none⟩ (.int .i64 0)).setCell ⟨w1.heap.size, 8, none⟩ nilS).setCell ⟨w1.heap.size, 9, none⟩ nilS).setCell ⟨w1.heap.size, 10, none⟩ (.int .i64 0)))) := hon4.fr F4 (.inl (Nat.le_refl _)); have hC4 := sets11 hB4 (.int .i64 0) (.int .i64 0) (.slice sa0 0 sc0) (.int .i64 0) (.int .i64 0) (.int .i64 0) (.bool false) (.int .i64 0) nilS nilS (.int .i64 0); have Hown4 := Lib.hid (hon4.own hown4 (own_ne hown4 hB4 (by decide))); refine (expect_ok p tb _ _ bv _ [[61]] _ (hon4.glob HG4.out (by omega)) (hon4.ps hps4 (by omega) (by omega)) hp13 eq_words (by decide) (one_each eq_words) HS.out.e1 (expGo1 HS.out.q2)).mono ?_; rintro e w5 ⟨rfl, hps5, hfr5⟩; have HG5 : Hid (Glob w5) := (hon4.glob HG4.out (by omega)).fr hfr5 hp13; have F5 : Fr p w1 w5 := hq4.out.trans hfr5; have hB5 := hfr5.at hC4 (by omega); have hl5 := hl1.fr F5 hlp; have Hown5 := Lib.hid (hfr5.own Hown4.out (by omega)); have hs5 := hfr5.size; rw [hon4.size] at hs5; clear hon4 hq4 hC4 hfr5 Hown4 b0 b1 b2 b3 b4 b5 b6 b7 b8 b9 b10 hz4 hB4 hown4))
        | (go_at_call 100; refine (rvalue_deep p tb c u ts s (j :: us) bv ls 0 k _ HG6.out hps6 hp13 hlen hl6 hlp HS.out.c2 HS.out.c3 HS.out.c4 HS.out.c5 HS.out.c6 HS.out.u1 HS.out.u2 (by decide) HS.out.ds HS.out.s1 hk32).mono ?_; rintro e w7 ⟨rfl, hfr7⟩))
    exact ⟨rfl, rfl, F1.trans (F5.trans ((Fr.of_below hb6).trans hfr7))⟩
end Go.Proofs.YthpanohdfelkhaaGreatDoor
