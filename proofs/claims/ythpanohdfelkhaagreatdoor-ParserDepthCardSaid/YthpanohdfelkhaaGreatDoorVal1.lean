/- valid's small parts at the bodies of ParserDepth: names and regions of none, zero, failed, first. -/
import Derived.Test.YthpanohdfelkhaaGreatDoorIdent
namespace Go.Proofs.YthpanohdfelkhaaGreatDoor
open Go.RowKit
abbrev nilSl : Value := .slice none 0 0
set_option maxRecDepth 100000 in
set_option maxHeartbeats 1000000 in
theorem zero_none (w : World) : Calls Tryz.prog 108 #[.agg #[.int .i64 0, nilSl]] w fun e w' => e = .returned (.bool true) ∧ Below w.heap.size w w' := by
  go_enter Tryz.func108, Tryz.ntmps108
  go_wp2_with fail
  go_ret
  exact ⟨rfl, (Below.refl _ _).alloc (Nat.le_refl _) _⟩
set_option maxRecDepth 100000 in
set_option maxHeartbeats 1000000 in
theorem names_none (w : World) : Calls Tryz.prog 103 #[nilSl] w fun e w' => e = .returned (.int .i64 0) ∧ Below w.heap.size w w' := by
  have hmm := @run_makeMap Tryz.prog
  go_enter Tryz.func103, Tryz.ntmps103
  go_wp2_with fail
  go_loopw [12] (fun i wr => i = .int .i64 0 ∧ wr = w.alloc (.map #[] 0)) (fun _ _ => 0)
  case atStart => exact ⟨rfl, rfl⟩
  case round =>
    obtain ⟨rfl, rfl⟩ := hrel
    go_wp2_with fail
    go_ret
    exact ⟨rfl, (Below.refl _ _).alloc (Nat.le_refl _) _⟩
set_option maxRecDepth 100000 in
set_option maxHeartbeats 1000000 in
theorem regCheck_none (w : World) : Calls Tryz.prog 104 #[nilSl, .int .i64 0] w fun e w' => e = .returned (.int .i64 0) ∧ Below w.heap.size w w' := by
  go_enter Tryz.func104, Tryz.ntmps104
  go_wp2_with fail
  go_loopw [12] (fun i wr => i = .int .i64 0 ∧ wr = w) (fun _ _ => 0)
  case atStart => exact ⟨rfl, rfl⟩
  case round =>
    obtain ⟨rfl, rfl⟩ := hrel
    go_wp2_with fail
    go_ret
    exact ⟨rfl, Below.refl _ _⟩
set_option maxRecDepth 100000 in
set_option maxHeartbeats 1000000 in
theorem regNew_none (w : World) : Calls Tryz.prog 107 #[nilSl, .int .i64 0] w fun e w' => ∃ r m1 m2, e = .returned (.tuple #[.pointer (some ⟨r, 0, none⟩), .int .i64 0]) ∧ Below w.heap.size w w' ∧ w.heap.size ≤ r ∧ w'.heap[r]? = some (.cells #[.int .i64 0, .map (some m1), .map (some m2)] 218 (0, 0)) := by
  have hmm := @run_makeMap Tryz.prog
  go_enter Tryz.func107, Tryz.ntmps107
  go_wp2_with (go_at_call 104; refine (regCheck_none _).mono ?_; rintro e w1 ⟨rfl, hb⟩)
  go_loopw [23] (fun i wr => i = .int .i64 0 ∧ Below w.heap.size w wr ∧ wr.heap[w1.heap.size + 1 + 1]? = some (.cells #[.int .i64 0, .map (some w1.heap.size), .map (some (w1.heap.size + 1))] 218 (0, 0))) (fun _ _ => 0)
  case atStart =>
    have hs := hb.size
    refine ⟨rfl, ((hb.alloc hs _).alloc (by simp; omega) _).alloc (by simp; omega) _, ?_⟩
    have := heap_new ((w1.alloc (.map #[] 0)).alloc (.map #[] 0)) (.cells #[.int .i64 0, .map (some w1.heap.size), .map (some (w1.heap.size + 1))] 218)
    simpa using this
  case round =>
    obtain ⟨rfl, hb2, hB⟩ := hrel
    have hs := hb.size
    go_wp2_with fail
    go_ret2
    exact ⟨_, _, _, rfl, hb2, by omega, hB⟩
set_option maxRecDepth 100000 in
set_option maxHeartbeats 1000000 in
theorem first_ok (b n : Nat) (w : World) (hn : n < 1000) (hz : ∀ i, i < n → w.cell? ⟨b, i, none⟩ = some (.int .i64 0)) (hb : b < w.heap.size) :
    Calls Tryz.prog 102 #[.slice (some ⟨b, 0, none⟩) n n] w fun e w' => e = .returned (.int .i64 0) ∧ Below w.heap.size w w' := by
  go_enter Tryz.func102, Tryz.ntmps102
  go_wp2_with fail
  go_loopw [7] (fun i wr => ∃ k : Nat, i = .int .i64 k ∧ k ≤ n ∧ wr = w) (fun i _ => n - (intOf i).toNat)
  case atStart => exact ⟨0, rfl, Nat.zero_le _, rfl⟩
  case round =>
    obtain ⟨k, rfl, hk, rfl⟩ := hrel
    by_cases hlt : k < n
    · have hc := hz k hlt
      have hlt' : (k : Int) < (n : Int) := by omega
      go_wp2_with fail
      exact ⟨⟨k + 1, by simp, hlt, by trivial⟩, by simp [intOf]; omega⟩
    · have hlt' : ¬ (k : Int) < (n : Int) := by omega
      go_wp2_with fail
      go_ret
      exact ⟨rfl, Below.refl _ _⟩
end Go.Proofs.YthpanohdfelkhaaGreatDoor
