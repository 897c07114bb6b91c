/- valid.locals at no local and at one local. -/
import Derived.Test.YthpanohdfelkhaaGreatDoorVal1
import Derived.Test.YthpanohdfelkhaaGreatDoorMapRun
import Derived.Test.YthpanohdfelkhaaGreatDoorRun
namespace Go.Proofs.YthpanohdfelkhaaGreatDoor
open Go.RowKit
/-- a body's value with no regions -/
abbrev bodyV (nm : ByteArray) (ta : Option Addr) (tn tc : Nat) (la : Option Addr) (ln lc : Nat) (ba : Option Addr) (bn bc : Nat) : Value := .agg #[.string nm, nilSl, nilSl, .slice ta tn tc, .slice la ln lc, .int .i64 0, .slice ba bn bc]
set_option maxRecDepth 100000 in
set_option maxHeartbeats 1000000 in
theorem vlocals_none (nm : ByteArray) (ta : Option Addr) (tn tc : Nat) (ba : Option Addr) (bn bc : Nat) (w : World) :
    Calls Tryz.prog 106 #[bodyV nm ta tn tc none 0 0 ba bn bc] w fun e w' => e = .returned (.int .i64 0) ∧ Below w.heap.size w w' := by
  have hmm := @run_makeMap Tryz.prog
  go_enter Tryz.func106, Tryz.ntmps106
  go_wp2_with fail
  go_loopw [14] (fun i wr => i = .int .i64 0 ∧ wr = (w.alloc (.cells #[.string nm, nilSl, nilSl, .slice ta tn tc, nilSl, .int .i64 0, .slice ba bn bc] 38)).alloc (.map #[] 0)) (fun _ _ => 0)
  case atStart => exact ⟨rfl, rfl⟩
  case round =>
    obtain ⟨rfl, rfl⟩ := hrel
    go_wp2_with fail
    go_ret
    exact ⟨rfl, ((Below.refl _ _).alloc (Nat.le_refl _) _).alloc (by simp) _⟩
theorem three_new' (w : World) (o o' o'' : Obj) : (((w.alloc o).alloc o').alloc o'').heap[w.heap.size]? = some o ∧ (((w.alloc o).alloc o').alloc o'').heap[w.heap.size + 1]? = some o' ∧ (((w.alloc o).alloc o').alloc o'').heap[w.heap.size + 1 + 1]? = some o'' := by
  have a := heap_new w o
  have b := heap_new (w.alloc o) o'
  have c := heap_new ((w.alloc o).alloc o') o''
  simp only [World.size_alloc] at b c
  refine ⟨?_, ?_, c⟩
  · rw [Below.heap_alloc _ _ _ (by simp only [World.size_alloc]; omega), Below.heap_alloc _ _ _ (by simp only [World.size_alloc]; omega)]; exact a
  · rw [Below.heap_alloc _ _ _ (by simp only [World.size_alloc]; omega)]; exact b
theorem below_put {base : Nat} {a w : World} (h : Below base a w) {r : Nat} (hr : base ≤ r) (o : Obj) : Below base a { w with heap := w.heap.setIfInBounds r o } :=
  ⟨h.os, h.tape, h.output, by simpa using h.size, fun k hk => by
    show (w.heap.setIfInBounds r o)[k]? = _
    rw [Array.getElem?_setIfInBounds_ne (by omega)]; exact h.block k hk⟩
theorem x_first : Lib.indexByte Lx.digits 120 < 0 := by decide +kernel
theorem x_trim : Lib.trimS [120] identSet.data.toList = [] := by decide +kernel
set_option maxRecDepth 100000 in
set_option maxHeartbeats 1000000 in
theorem vlocals_x (nm : ByteArray) (ta : Option Addr) (tc : Nat) (lb lc : Nat) (ba : Option Addr) (bn bc : Nat) (w : World) (h0 : w.cell? ⟨lb, 0, none⟩ = some (.string ⟨#[120]⟩)) (h1 : w.cell? ⟨lb, 1, none⟩ = some (.int .i64 0)) (hlb : lb < w.heap.size) :
    Calls Tryz.prog 106 #[bodyV nm ta 1 tc (some ⟨lb, 0, none⟩) 1 lc ba bn bc] w fun e w' => e = .returned (.int .i64 0) ∧ Below w.heap.size w w' := by
  have hmm := @run_makeMap Tryz.prog
  have hlk : ∀ (W : World) (r : Nat), W.heap[r]? = some (.map #[] 0) → (Instr.lookup 210 (.map (some r)) (.string ⟨#[120]⟩) false).run Tryz.prog W = .ok (.bool false) W := fun W r hr =>
    run_lookup1_miss _ _ _ .string r #[] 0 _ _ W Tryz.underlying210 Tryz.underlying9 rfl hr rfl (by rfl)
  go_enter Tryz.func106, Tryz.ntmps106
  go_wp2_with fail
  go_loopw [14] (fun i wr => (i = .int .i64 0 ∧ wr = (w.alloc (.cells #[.string nm, nilSl, nilSl, .slice ta 1 tc, .slice (some ⟨lb, 0, none⟩) 1 lc, .int .i64 0, .slice ba bn bc] 38)).alloc (.map #[] 0)) ∨ (i = .int .i64 1 ∧ Below w.heap.size w wr ∧ wr.heap[w.heap.size]? = some (.cells #[.string nm, nilSl, nilSl, .slice ta 1 tc, .slice (some ⟨lb, 0, none⟩) 1 lc, .int .i64 0, .slice ba bn bc] 38 (0, 0)))) (fun i _ => 1 - (intOf i).toNat)
  case atStart => exact .inl ⟨rfl, rfl⟩
  case round =>
    rcases hrel with ⟨rfl, rfl⟩ | ⟨rfl, hb, hB⟩
    · have hup : ∀ (W : World) (r : Nat), W.heap[r]? = some (.map #[] 0) → (Instr.mapUpdate 210 (.map (some r)) (.string ⟨#[120]⟩) (.bool true)).run Tryz.prog W = .ok () { W with heap := W.heap.setIfInBounds r (.map #[{ key := .string ⟨#[120]⟩, val := .bool true, born := 0 }] 1) } := fun W r hr =>
        run_mapUpdate_new _ _ _ .string r #[] 0 _ _ W Tryz.underlying210 Tryz.underlying9 rfl hr rfl
      go_wp2_with (go_at_call 101; refine (ident_one 120 _ x_first x_trim).mono ?_; rintro e w4 ⟨rfl, hb4⟩; have hs4 := hb4.size; simp only [World.size_alloc] at hs4; obtain ⟨n0, n1, n2⟩ := three_new' w (.cells #[.string nm, nilSl, nilSl, .slice ta 1 tc, .slice (some ⟨lb, 0, none⟩) 1 lc, .int .i64 0, .slice ba bn bc] 38) (.map #[] 0) (.cells #[.string ⟨#[120]⟩, .int .i64 0] 70); have m0 := (hb4.block w.heap.size (by simp only [World.size_alloc]; omega)).trans n0; have m1 := (hb4.block (w.heap.size + 1) (by simp only [World.size_alloc]; omega)).trans n1; have m2 := (hb4.block (w.heap.size + 1 + 1) (by simp only [World.size_alloc]; omega)).trans n2; obtain ⟨b0, b1, b2, b3⟩ := box2 m2; obtain ⟨d0, d1, d2, d3, d4, d5, d6⟩ := box7 m0)
      refine ⟨.inr ⟨rfl, below_put ((((Below.refl _ _).alloc (Nat.le_refl _) _).alloc (by simp) _).trans (Below.trans ((Below.refl _ _).alloc (by simp only [World.size_alloc]; omega) _) (hb4.mono (by simp only [World.size_alloc]; omega)))) (by omega) _, ?_⟩, by simp [intOf]⟩
      show (w4.heap.setIfInBounds _ _)[_]? = _
      rw [Array.getElem?_setIfInBounds_ne (by omega)]; exact m0
    · obtain ⟨d0, d1, d2, d3, d4, d5, d6⟩ := box7 hB
      go_wp2_with fail
      go_ret
      exact ⟨rfl, hb⟩
end Go.Proofs.YthpanohdfelkhaaGreatDoor
/- types.Check at the one type int. -/
namespace Go.Proofs.YthpanohdfelkhaaGreatDoor
open Go.RowKit
set_option maxRecDepth 100000 in
set_option maxHeartbeats 1000000 in
theorem depth_none (c : Nat) (w : World) : Calls Tryz.prog 162 #[.pointer (some ⟨c, 0, none⟩), nilSl] w fun e w' => e = .returned (.tuple #[.int .i64 0, .bool true]) ∧ Below w.heap.size w w' := by
  go_enter Tryz.func162, Tryz.ntmps162
  go_wp2_with fail
  go_loopw [6, 11] (fun d i wr => d = .int .i64 0 ∧ i = .int .i64 0 ∧ wr = w) (fun _ _ _ => 0)
  case atStart => exact ⟨rfl, rfl, rfl⟩
  case round =>
    obtain ⟨rfl, rfl, rfl⟩ := hrel
    go_wp2_with fail
    go_ret2
    exact ⟨rfl, Below.refl _ _⟩
set_option maxRecDepth 100000 in
set_option maxHeartbeats 1000000 in
theorem add_int (c : Nat) (w : World) (hc : w.heap[c]? = some (.cells #[.int .i64 0, nilSl] 213 (0, 0))) :
    Calls Tryz.prog 139 #[.pointer (some ⟨c, 0, none⟩), .agg #[.int .i64 2, .bool false, .int .i64 0, .int .i64 0, nilSl]] w fun e w' => e = .returned (.int .i64 0) ∧ Fr c w w' := by
  obtain ⟨c0, c1, f0, f1⟩ := box2 hc
  have hlt := lt_of_blk hc
  go_enter Tryz.func139, Tryz.ntmps139
  go_wp2_with (go_at_call 162; refine (depth_none c _).mono ?_; rintro e w1 ⟨rfl, hb1⟩; have hs1 := hb1.size; simp only [World.size_alloc] at hs1; have m0 := (hb1.block w.heap.size (by simp only [World.size_alloc]; omega)).trans (heap_new w _); have mc := (hb1.block c (by simp only [World.size_alloc]; omega)).trans ((Below.heap_alloc _ _ _ hlt).trans hc); obtain ⟨b0, b1, b2, b3, b4⟩ := box5 m0; obtain ⟨d0, d1, g0, g1⟩ := box2 mc; have hc1 := lt_of_blk mc)
  go_ret
  exact ⟨rfl, (((((Fr.refl c w).alloc _).trans (Fr.of_below hb1)).trans (fr_set c 1 _ w1)).alloc _ |>.alloc _).drew⟩
end Go.Proofs.YthpanohdfelkhaaGreatDoor
/- types.Find in an empty list; types.Check at the one type int. -/
namespace Go.Proofs.YthpanohdfelkhaaGreatDoor
open Go.RowKit
set_option maxRecDepth 100000 in
set_option maxHeartbeats 1000000 in
theorem indexType_none (x : Option Addr) (c : Nat) (fv : Value) (w : World) :
    Calls Tryz.prog 163 #[.slice x 0 c, fv] w fun r w' => r = .returned (.int .i64 (-1)) ∧ Below w.heap.size w w' := by
  go_enter Tryz.func163, Tryz.ntmps163
  go_wp2_with fail
  go_loopw [5, 8] (fun _ i wr => i = .int .i64 0 ∧ wr = w) (fun _ _ _ => 0)
  case atStart => exact ⟨rfl, rfl⟩
  case round =>
    obtain ⟨rfl, rfl⟩ := hrel
    go_wp2_with fail
    go_ret
    exact ⟨rfl, Below.refl _ _⟩
set_option maxRecDepth 100000 in
set_option maxHeartbeats 1000000 in
theorem find_none (x : Option Addr) (c : Nat) (w : World) :
    Calls Tryz.prog 140 #[.slice x 0 c, .agg #[.int .i64 2, .bool false, .int .i64 0, .int .i64 0, nilSl]] w fun r w' => r = .returned (.tuple #[.int .i64 0, .bool false]) ∧ Below w.heap.size w w' := by
  have hmf : ∀ (fn : Fn) (first cap : Array Value) (w : World), (Instr.makeFunc fn first cap).run Tryz.prog w = .ok (.func fn first cap) w := fun _ _ _ _ => rfl
  go_enter Tryz.func140, Tryz.ntmps140
  go_wp2_with (go_at_call 163; refine (indexType_none x c _ _).mono ?_; rintro e w1 ⟨rfl, hb1⟩)
  go_ret2
  exact ⟨rfl, ((Below.refl _ _).alloc (Nat.le_refl _) _).trans (hb1.mono (by simp))⟩
set_option maxRecDepth 100000 in
set_option maxHeartbeats 1000000 in
theorem tcheck_none (w : World) : Calls Tryz.prog 105 #[nilSl, .int .i64 0] w fun r w' => r = .returned (.int .i64 0) ∧ Below w.heap.size w w' := by
  go_enter Tryz.func105, Tryz.ntmps105
  go_wp2_with fail
  go_loopw [19] (fun i wr => i = .int .i64 0 ∧ wr = w.alloc (.cells #[.int .i64 0, nilSl] 213)) (fun _ _ => 0)
  case atStart => exact ⟨rfl, rfl⟩
  case round =>
    obtain ⟨rfl, rfl⟩ := hrel
    go_wp2_with fail
    go_ret
    exact ⟨rfl, (Below.refl _ _).alloc (Nat.le_refl _) _⟩
set_option maxRecDepth 100000 in
set_option maxHeartbeats 1000000 in
theorem tcheck_int (gt c : Nat) (w : World) (hg : gt < w.heap.size) (h : CellsAt w gt intCells) : Calls Tryz.prog 105 #[.slice (some ⟨gt, 0, none⟩) 1 c, .int .i64 0] w fun r w' => r = .returned (.int .i64 0) ∧ Below w.heap.size w w' := by
  have h0 := h 0 _ rfl
  have h1 := h 1 _ rfl
  have h2 := h 2 _ rfl
  have h3 := h 3 _ rfl
  have h4 := h 4 _ rfl
  go_enter Tryz.func105, Tryz.ntmps105
  go_wp2_with fail
  go_loopw [19] (fun i wr => (i = .int .i64 0 ∧ wr = w.alloc (.cells #[.int .i64 0, nilSl] 213)) ∨ (i = .int .i64 1 ∧ Below w.heap.size w wr)) (fun i _ => 1 - (intOf i).toNat)
  case atStart => exact .inl ⟨rfl, rfl⟩
  case round =>
    rcases hrel with ⟨rfl, rfl⟩ | ⟨rfl, hb⟩
    · have hck := two_new0 w (.cells #[.int .i64 0, nilSl] 213) (.cells #[.int .i64 2, .bool false, .int .i64 0, .int .i64 0, nilSl] 68)
      have hty := two_new1 w (.cells #[.int .i64 0, nilSl] 213) (.cells #[.int .i64 2, .bool false, .int .i64 0, .int .i64 0, nilSl] 68)
      go_wp2_with (go_at_call 139; refine (add_int w.heap.size _ hck).mono ?_; rintro e w1 ⟨rfl, hfr⟩; have m1 := hfr.at hty (by omega); obtain ⟨b0, b1, b2, b3, b4⟩ := box5 m1)
      go_region_with (go_at_call 140; refine (find_none _ _ _).mono ?_; rintro e w2 ⟨rfl, hb2⟩)
      all_goals go_wp2_with fail
      all_goals exact ⟨.inr ⟨rfl, (hfr.below (((Below.refl _ _).alloc (Nat.le_refl _) _).alloc (by simp) _) (Nat.le_refl _) (Nat.le_refl _)).drew.trans (hb2.mono (by have := hfr.size; simp at this ⊢; omega))⟩, by simp [intOf]⟩
    · go_wp2_with fail
      go_ret
      exact ⟨rfl, hb⟩
end Go.Proofs.YthpanohdfelkhaaGreatDoor
