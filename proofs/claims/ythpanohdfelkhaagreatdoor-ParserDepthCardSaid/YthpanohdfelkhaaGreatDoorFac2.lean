/- ParseFacts: the run over its closure, the call itself, on the chapter's example. -/
import Derived.Test.YthpanohdfelkhaaGreatDoorFac1
import Derived.Test.YthpanohdfelkhaaGreatDoorVal11
namespace Go.Proofs.YthpanohdfelkhaaGreatDoor
open Go.RowKit
theorem ps_newB (bv : BV) {w1 : World} {g cap : Nat} {toks : List Tok} (htk : ToksAt w1 g 0 toks) (hg : g < w1.heap.size) (hcap : toks.length ≤ cap) (W0 : World) (hW : W0.heap.size = w1.heap.size) (hb : W0.heap[g]? = w1.heap[g]?) :
    PS (W0.alloc (.cells #[.slice (some ⟨g, 0, none⟩) toks.length cap, bv.nm, bv.rg, bv.ol, bv.ty, bv.lc, bv.ar, bv.bl] 63)) w1.heap.size g toks bv :=
  ⟨0, cap, ⟨by rw [← hW]; exact heap_new _ _, hcap, by omega, by simp only [World.size_alloc]; omega, (htk.keep hb).keep (Below.heap_alloc _ _ _ (by omega))⟩⟩
set_option maxRecDepth 100000 in
set_option maxHeartbeats 1000000 in
theorem facts1_c (p tb g c F : Nat) (w : World) (hG : Glob w) (h : PS w p tb toksF (bvB g c)) (hp13 : 13 ≤ p) (hF : w.heap[F]? = some (.cells #[nilS, nilS, nilS, nilS, nilS] 49 (0, 0))) (hFp : F ≠ p) :
    Calls Tryz.prog 34 #[.pointer (some ⟨p, 0, none⟩), .pointer (some ⟨F, 0, none⟩)] w fun e w' => e = .returned (.tuple #[]) ∧ Fr p w w' := by
  go_enter Tryz.func34, Tryz.ntmps34
  go_wp2_with (go_at_call 35; refine (table_c p tb g c _ hG h hp13).mono ?_; rintro e w1 ⟨rfl, hfr⟩; have hF1 := hfr.at hF hFp; obtain ⟨y0, y1, y2, y3, y4⟩ := box5 hF1; have hz := frozen_of_blk hF1; have hl := lt_of_blk hF1)
  have hon : Only F w1 _ := (((((Only.refl F w1).set 0 nilS).set 1 nilS).set 2 nilS).set 3 nilS).set 4 nilS
  go_end0
  refine ⟨rfl, hfr.trans ⟨rfl, rfl, rfl, by rw [hon.size]; exact Nat.le_refl _, fun k hk hp => ?_⟩⟩
  by_cases e : k = F
  · subst e
    rw [setBlk _ _ _ _ _ _ _ (setBlk _ _ _ _ _ _ _ (setBlk _ _ _ _ _ _ _ (setBlk _ _ _ _ _ _ _ (setBlk _ _ _ _ _ _ _ hF1)))), hF1]; rfl
  · exact hon.block k e
set_option maxRecDepth 100000 in
set_option maxHeartbeats 1000000 in
theorem run_facts (s : ByteArray) (toks : List Tok) (g c F : Nat) (w : World) (hG : Glob w) (hs : s.size ≤ 1000000) (hlex : Lx.lex s.data.toList = .ok toks)
    (hall : ∀ (W : World) (p tb : Nat), Glob W → Below w.heap.size w W → PS W p tb toks (bvB g c) → 13 ≤ p → w.heap.size ≤ p → Calls Tryz.prog 34 #[.pointer (some ⟨p, 0, none⟩), .pointer (some ⟨F, 0, none⟩)] W fun e w' => e = .returned (.tuple #[]) ∧ Fr p W w') :
    Calls Tryz.prog 20 #[.string s, bodyV ⟨#[102]⟩ none 0 0 none 0 0 (some ⟨g, 0, none⟩) 1 c, .func (.func 34) #[] #[.pointer (some ⟨F, 0, none⟩)]] w fun e w' => ∃ p, e = .returned (.tuple #[.pointer (some ⟨p, 0, none⟩), .int .i64 s.size, .int .i64 0]) ∧ Below w.heap.size w w' := by
  have hmf : ∀ (fn : Fn) (first cap : Array Value) (w : World), (Instr.makeFunc fn first cap).run Tryz.prog w = .ok (.func fn first cap) w := fun _ _ _ _ => rfl
  have Hlex := Lib.hid hlex; clear hlex
  have Hall := Lib.hid hall; clear hall
  have HG : ∀ o o' o'', Hid (Glob (((w.alloc o).alloc o').alloc o'')) := fun o o' o'' => ((hG.alloc o).alloc o').alloc o''
  go_enter_defers Tryz.func20, Tryz.ntmps20
  go_wp2_with (first
    | (go_at_call 43; refine (lex_is s toks _ (HG _ _ _).out hs Hlex.out).mono ?_; rintro e w1 ⟨g', cap, rfl, hb1, hg1, hg2, hcap, htk⟩; have hs1 := hb1.size; simp only [World.size_alloc] at hs1 hg1; obtain ⟨n0, n1, n2⟩ := three_new w (.cells #[.string ⟨#[102]⟩, nilS, nilS, nilS, nilS, .int .i64 0, .slice (some ⟨g, 0, none⟩) 1 c] 38) (.cells #[.int .i64 0] 3) (.cells #[.int .i64 0] 39); have m0 := (hb1.block w.heap.size (by simp only [World.size_alloc]; omega)).trans n0; have m1 := (hb1.block (w.heap.size + 1) (by simp only [World.size_alloc]; omega)).trans n1; have m2 := (hb1.block (w.heap.size + 1 + 1) (by simp only [World.size_alloc]; omega)).trans n2; clear n0 n1 n2; obtain ⟨b0, b1, b2, b3, b4, b5, b6⟩ := box7 m0; have a0 := cell1 m1; have e0 := cell1 m2; have z0 := frozen_of_blk m0; have z1 := frozen_of_blk m1; have z2 := frozen_of_blk m2; have hszl := hb1.size)
    | (go_at_call 34; have hon1 : Only (w.heap.size + 1) w1 (w1.setCell ⟨w.heap.size + 1, 0, none⟩ (.int .i64 s.size)) := (Only.refl _ _).set 0 _; have hon2 : Only (w.heap.size + 1 + 1) (w1.setCell ⟨w.heap.size + 1, 0, none⟩ (.int .i64 s.size)) ((w1.setCell ⟨w.heap.size + 1, 0, none⟩ (.int .i64 s.size)).setCell ⟨w.heap.size + 1 + 1, 0, none⟩ (.int .i64 0)) := (Only.refl _ _).set 0 _; have hG1 := (((HG _ _ _).out.below hb1)); have hlo := hG.sz; have hBl := (hon2.below (hon1.below (((((Below.refl _ _).alloc (Nat.le_refl _) _).alloc (by simp) _).alloc (by simp; omega) _).trans (hb1.mono (by simp; omega))) (by omega)) (by omega)); refine (Hall.out _ w1.heap.size g' ((hon2.glob (hon1.glob hG1 (by omega)) (by omega)).alloc _) (hBl.alloc (by rw [hon2.size, hon1.size]; omega) _) (ps_newB (bvB g c) htk hg2 hcap _ (by rw [hon2.size, hon1.size]) ((hon2.block g' (by omega)).trans (hon1.block g' (by omega)))) (by omega) (by omega)).mono ?_; rintro e w2 ⟨rfl, hfr⟩; have hs2 := hfr.size; simp only [World.size_alloc, hon2.size, hon1.size] at hs2; have k1 := hfr.at ((Below.heap_alloc _ _ _ (by rw [hon2.size, hon1.size]; omega)).trans ((hon2.block (w.heap.size + 1) (by omega)).trans (set1 m1 _))) (by omega); have k2 := hfr.at ((Below.heap_alloc _ _ _ (by rw [hon2.size, hon1.size]; omega)).trans (set1 ((hon1.block (w.heap.size + 1 + 1) (by omega)).trans m2) (.int .i64 0))) (by omega); have hbl : Hid (Below w.heap.size w w2) := hfr.below ((hon2.below (hon1.below (((((Below.refl _ _).alloc (Nat.le_refl _) _).alloc (by simp) _).alloc (by simp; omega) _).trans (hb1.mono (by simp; omega))) (by omega)) (by omega)).alloc (by rw [hon2.size, hon1.size]; omega) _) (by omega) (Nat.le_refl _); clear hBl hfr hon1 hon2 m0 m1 m2 a0 e0 z0 z1 z2 b0 b1 b2 b3 b4 b5 b6 hszl hb1; have a0 := cell1 k1; have e0 := cell1 k2; have z1 := frozen_of_blk k1; have z2 := frozen_of_blk k2))
  refine leaves_cons (f := 44) (args := #[.pointer (some ⟨w.heap.size + 1, 0, none⟩), .pointer (some ⟨w.heap.size + 1 + 1, 0, none⟩)]) (by simp) (by simp [go_sem]) ?_
  refine (catch_idle _ _ _).mono ?_
  rintro e u' w'' ⟨rfl, rfl, rfl⟩
  have hon1 : Only (w.heap.size + 1) w2 (w2.setCell ⟨w.heap.size + 1, 0, none⟩ (.int .i64 s.size)) := (Only.refl _ _).set 0 _
  have hon2 : Only (w.heap.size + 1 + 1) (w2.setCell ⟨w.heap.size + 1, 0, none⟩ (.int .i64 s.size)) ((w2.setCell ⟨w.heap.size + 1, 0, none⟩ (.int .i64 s.size)).setCell ⟨w.heap.size + 1 + 1, 0, none⟩ (.int .i64 0)) := (Only.refl _ _).set 0 _
  have hB := hon2.below (hon1.below hbl.out (by omega)) (by omega)
  refine ⟨.tuple #[.pointer (some ⟨w1.heap.size, 0, none⟩), .int .i64 s.size, .int .i64 0], ?_, w1.heap.size, rfl, hB⟩
  simp [results, Tryz.results20, go_sem, a0, e0]
end Go.Proofs.YthpanohdfelkhaaGreatDoor
/- points.Count at a body of one block that returns. -/
namespace Go.Proofs.YthpanohdfelkhaaGreatDoor
open Go.RowKit
theorem cell_top (w : World) (cs z : Array Value) (t : TypeId) (b i : Nat) (v : Value) (hb : b = w.heap.size) (hi : cs[i]? = some v) : (w.alloc (.cells (cs ++ z) t)).cell? ⟨b, i, none⟩ = some v := by
  subst hb
  rw [cell_of_blk (heap_new w _), Array.getElem?_append_left (Array.getElem?_eq_some_iff.1 hi).1]; exact hi
set_option maxRecDepth 100000 in
set_option maxHeartbeats 2000000 in
theorem starts_one (g c : Nat) (w : World) (hB : CellsAt w g (blkCells nilS 2)) :
    Calls Tryz.prog 84 #[bodyV ⟨#[102]⟩ none 0 0 none 0 0 (some ⟨g, 0, none⟩) 1 c] w fun e w' => ∃ r y, e = .returned (.slice (some ⟨r, 0, none⟩) 2 y) ∧ w'.cell? ⟨r, 1, none⟩ = some (.int .i64 1) ∧ Below w.heap.size w w' := by
  obtain ⟨b0, b1, b2, b3, b4, b5, b6⟩ := blk7 hB
  have hg := block_of_cell b0
  clear hB
  go_enter Tryz.func84, Tryz.ntmps84
  go_wp2_with fail
  refine wp_loop_rounds 2 ?_
  rw [rounds_succ]
  go_wp2_with fail
  go_region_with (fail)
  all_goals
    go_wp2_with fail
    rw [rounds_succ]
    go_wp2_with fail
    go_ret
    refine ⟨_, _, rfl, ?_, ?_⟩
    · exact cell_top _ #[.int .i64 0, .int .i64 1] _ _ _ 1 _ (by simp) rfl
    · repeat (first | exact Below.refl _ _ | assumption | refine Below.setCell ?_ (by simp <;> omega) _ | refine Below.alloc ?_ (by simp <;> omega) _ | refine Below.drew ?_)
set_option maxRecDepth 100000 in
set_option maxHeartbeats 2000000 in
theorem count_one (g c : Nat) (w : World) (hB : CellsAt w g (blkCells nilS 2)) :
    Calls Tryz.prog 37 #[bodyV ⟨#[102]⟩ none 0 0 none 0 0 (some ⟨g, 0, none⟩) 1 c] w fun e w' => e = .returned (.int .i64 1) ∧ Below w.heap.size w w' := by
  have HB := fun o => Lib.hid (hB.below ((Below.refl _ w).alloc (Nat.le_refl _) o))
  clear hB
  go_enter Tryz.func37, Tryz.ntmps37
  go_wp2_with (go_at_call 84; refine (starts_one g c _ (HB _).out).mono ?_; rintro e w1 ⟨r, y, rfl, hc, hb1⟩)
  go_ret
  exact ⟨rfl, ((Below.refl _ _).alloc (Nat.le_refl _) _).trans (hb1.mono (by simp))⟩
end Go.Proofs.YthpanohdfelkhaaGreatDoor
