/- places.Check and places.project at a place whose projections are all dereferences, over the one type int. -/
import Derived.Test.YthpanohdfelkhaaGreatDoorBase
namespace Go.Proofs.YthpanohdfelkhaaGreatDoor
open Go.RowKit
/-- n projections, all of them '.*', in block g from offset 0 on -/
def Stars (w : World) (g n : Nat) : Prop := ∀ j, j < n → w.cell? ⟨g, j * 2, none⟩ = some (.int .i64 0) ∧ w.cell? ⟨g, j * 2 + 1, none⟩ = some (.int .i64 0)
theorem Stars.below {w w' : World} {g n : Nat} (h : Stars w g n) (hg : g < w.heap.size) (hb : Below w.heap.size w w') : Stars w' g n := fun j hj =>
  ⟨(hb.cell (p := ⟨g, j * 2, none⟩) hg).trans (h j hj).1, (hb.cell (p := ⟨g, j * 2 + 1, none⟩) hg).trans (h j hj).2⟩
set_option maxRecDepth 100000 in
set_option maxHeartbeats 1000000 in
theorem plc_none (sa : Option Addr) (c : Nat) (w : World) : Calls Tryz.prog 125 #[.agg #[.int .i64 0, .slice sa 0 c]] w fun e w' => e = .returned (.int .i64 0) ∧ Below w.heap.size w w' := by
  go_enter Tryz.func125, Tryz.ntmps125
  go_wp2_with fail
  go_loopw [17] (fun i wr => i = .int .i64 0 ∧ wr = w.alloc (.cells #[.int .i64 0, .slice sa 0 c] 76)) (fun _ _ => 0)
  case atStart => exact ⟨rfl, rfl⟩
  case round =>
    obtain ⟨rfl, rfl⟩ := hrel
    go_wp2_with fail
    go_ret
    exact ⟨rfl, (Below.refl _ _).alloc (Nat.le_refl _) _⟩
set_option maxRecDepth 100000 in
set_option maxHeartbeats 1000000 in
theorem plc_some (g n c : Nat) (w : World) (hn : n ≤ 32) (hg : g < w.heap.size) (hs : Stars w g n) : Calls Tryz.prog 125 #[.agg #[.int .i64 0, .slice (some ⟨g, 0, none⟩) n c]] w fun e w' => e = .returned (.int .i64 0) ∧ Below w.heap.size w w' := by
  go_enter Tryz.func125, Tryz.ntmps125
  go_wp2_with fail
  go_loopw [17] (fun i wr => ∃ k : Nat, i = .int .i64 k ∧ k ≤ n ∧ Below w.heap.size w wr) (fun i _ => n - (intOf i).toNat)
  case atStart => exact ⟨0, rfl, Nat.zero_le _, (Below.refl _ _).alloc (Nat.le_refl _) _⟩
  case round =>
    obtain ⟨k, rfl, hk, hb⟩ := hrel
    by_cases hlt : k < n
    · obtain ⟨h0, h1⟩ := hs.below hg hb k hlt
      have hlt' : (k : Int) < (n : Int) := by omega
      clear hs
      go_wp2_with fail
      exact ⟨⟨k + 1, by simp, hlt, hb.alloc hb.size _⟩, by simp [intOf]; omega⟩
    · have hlt' : ¬ (k : Int) < (n : Int) := by omega
      clear hs
      go_wp2_with fail
      go_ret
      exact ⟨rfl, hb⟩
set_option maxRecDepth 100000 in
set_option maxHeartbeats 1000000 in
theorem project_int (gt c : Nat) (w : World) (h0 : w.cell? ⟨gt, 0, none⟩ = some (.int .i64 2)) (h1 : w.cell? ⟨gt, 1, none⟩ = some (.bool false)) (h2 : w.cell? ⟨gt, 2, none⟩ = some (.int .i64 0)) (h3 : w.cell? ⟨gt, 3, none⟩ = some (.int .i64 0)) (h4 : w.cell? ⟨gt, 4, none⟩ = some (.slice none 0 0)) :
    Calls Tryz.prog 191 #[.slice (some ⟨gt, 0, none⟩) 1 c, .int .i64 0, .agg #[.int .i64 0, .int .i64 0]] w fun e w' => e = .returned (.agg #[.int .i64 0, .int .i64 22]) ∧ Below w.heap.size w w' := by
  have hlt : gt < w.heap.size := block_of_cell h0
  go_enter Tryz.func191, Tryz.ntmps191
  go_wp2_with fail
  refine bodyPost_ret (v := .agg #[.int .i64 0, .int .i64 22]) (by simp [results, Tryz.results191, go_sem]) rfl ⟨rfl, ?_⟩
  repeat (first | exact Below.refl _ _ | assumption | refine Below.setCell ?_ (by simp <;> omega) _ | refine Below.alloc ?_ (by simp <;> omega) _ | refine Below.drew ?_)
end Go.Proofs.YthpanohdfelkhaaGreatDoor
