/- facts.Check at the empty table. -/
import Derived.Test.YthpanohdfelkhaaGreatDoorFac3
namespace Go.Proofs.YthpanohdfelkhaaGreatDoor
open Go.RowKit Go.Shelf
attribute [local go_sem] Oper.semAt_some
theorem box3' {w : World} {b : Nat} {x0 x1 x2 : Value} {t : TypeId} (h : w.heap[b]? = some (.cells #[x0, x1, x2] t (0, 0))) :
    w.cell? ⟨b, 0, none⟩ = some x0 ∧ w.cell? ⟨b, 1, none⟩ = some x1 ∧ w.cell? ⟨b, 2, none⟩ = some x2 ∧ w.frozen? ⟨b, 0, none⟩ = false := by
  refine ⟨?_, ?_, ?_, frozen_of_blk h 0⟩ <;> rw [cell_of_blk h] <;> rfl
set_option maxRecDepth 100000 in
set_option maxHeartbeats 2000000 in
theorem fcheck_none (P R : Int) (w : World) : Calls Tryz.prog 36 #[.agg #[nilS, nilS, nilS, nilS, nilS], .int .i64 P, .int .i64 R] w fun e w' => e = .returned (.int .i64 0) ∧ Below w.heap.size w w' := by
  have hmo : Tryz.prog.follows .mixedOrders = true := by kernel_rfl
  have hmx : ∀ (W : World) (ts : Array TypeId) (t : TypeId), (Builtin.max_ ts t #[.int .i64 0, .int .i64 0, .int .i64 0, .int .i64 0, .int .i64 0]).run Tryz.prog W = .ok (.int .i64 0) W := fun _ _ _ => rfl
  refine (callsIn_wide (n := 9)).1 ?_
  refine callsIn_of_wp_marks Tryz.func36 rfl trivial ?_ rfl
  simp only [Tryz.ntmps36, List.size_toArray, List.length_cons, List.length_nil, Nat.reduceAdd, Nat.reduceSub, Array.replicate_succ, Array.replicate_zero, List.push_toArray, List.append_toArray, List.nil_append, List.cons_append]
  gi_wp2_with fail
  refine wpIn_wide.2 (wp_scope_straight ((wpIn_wide (n := 9)).1 ?_))
  gi_wp2_with (refine ⟨trivial, ?_⟩; gi_at_call 80; refine (callsIn_wide.2 (checkLoans_none P R _)).mono ?_; rintro e w1 ⟨rfl, hb1⟩; have hs1 := hb1.size; simp only [World.size_alloc] at hs1; have m0 := (hb1.block w.heap.size (by simp)).trans (heap_new w _); obtain ⟨x0, x1, x2, x3, x4⟩ := box5 m0; have B1 : Hid (Below w.heap.size w w1) := ((Below.refl _ _).alloc (Nat.le_refl _) _).trans (hb1.mono (by simp)); have hlt1 := lt_of_blk m0; clear hb1)
  refine wpIn_label ?_
  gi_wp2_with (refine ⟨trivial, ?_⟩; gi_at_call 81; refine (callsIn_wide.2 (tables_c P R _)).mono ?_; rintro e w2 ⟨rfl, rfl⟩)
  have hB : Below w.heap.size w ((((w1.alloc (.cells #[.int .i64 0] 39)).alloc (.cells #[nilS, nilS, nilS, nilS, nilS] 49)).alloc (.cells #[.int .i64 P] 3)).alloc (.cells #[.int .i64 R] 3)) := (((B1.out.alloc (by omega) _).alloc (by simp only [World.size_alloc]; omega) _).alloc (by simp only [World.size_alloc]; omega) _).alloc (by simp only [World.size_alloc]; omega) _
  obtain ⟨g0, g1, g2, g3⟩ := four_new w1 (.cells #[.int .i64 0] 39) (.cells #[nilS, nilS, nilS, nilS, nilS] 49) (.cells #[.int .i64 P] 3) (.cells #[.int .i64 R] 3)
  have hz : ((((w1.alloc (.cells #[.int .i64 0] 39)).alloc (.cells #[nilS, nilS, nilS, nilS, nilS] 49)).alloc (.cells #[.int .i64 P] 3)).alloc (.cells #[.int .i64 R] 3)).heap.size = w1.heap.size + 4 := by simp
  generalize ((((w1.alloc (.cells #[.int .i64 0] 39)).alloc (.cells #[nilS, nilS, nilS, nilS, nilS] 49)).alloc (.cells #[.int .i64 P] 3)).alloc (.cells #[.int .i64 R] 3)) = V at hB g0 g1 g2 g3 hz ⊢
  have HZ := Lib.hid hz; clear hz
  have HB1 := B1.out.size
  refine range_seq (by decide) (gf := 126) (lb := #[.pointer (some ⟨w1.heap.size + 1, 0, none⟩), .pointer (some ⟨w1.heap.size + 1 + 1, 0, none⟩), .pointer (some ⟨w1.heap.size + 1 + 1 + 1, 0, none⟩)]) rfl (enters_of Tryz.func126 (by kernel_rfl) rfl)
    [encT P P, encT 0 P, encT 0 P, encT R P] (KeepC w1.heap.size) (tables1_y P R w1.heap.size _ _ _ V (by omega) (by omega) (by omega) g1 g2 g3) (fun h k => h.trans k) (fun W l o o' h hc => keepC_put W l o o' h hc) (fun W W' h => KeepC.of_below h)
    (by intro i x hx; match i, hx with | 0, rfl => rfl | 1, rfl => rfl | 2, rfl => rfl | 3, rfl => rfl)
    (fun _ W => Below w.heap.size w W ∧ W.heap[w1.heap.size]? = some (.cells #[.int .i64 0] 39 (0, 0)))
    (fun _ W W' h hb => ⟨h.1.trans (hb.mono (by rw [HZ.out]; omega)), (hb.block _ (by rw [HZ.out]; omega)).trans h.2⟩) ⟨hB, g0⟩
    (fun i a' W => ∃ a Bx, W.heap[Bx]? = some (.cells #[nilS, .int .i64 a, .int .i64 P] 153 (0, 0)) ∧ a' = { tmps := #[.agg #[nilS, nilS, nilS, nilS, nilS], .int .i64 P, .int .i64 R, .pointer (some ⟨w.heap.size, 0, none⟩), undef, undef, .int .i64 0, .pointer (some ⟨w1.heap.size, 0, none⟩), .pointer (some ⟨Bx, 0, none⟩), undef, undef, .pointer (some ⟨w.heap.size, 0, none⟩), nilS, .int .i64 0, .pointer (some ⟨w.heap.size, 1, none⟩), nilS, .int .i64 0, .pointer (some ⟨w.heap.size, 2, none⟩), nilS, .int .i64 0, .pointer (some ⟨w.heap.size, 3, none⟩), nilS, .int .i64 0, .pointer (some ⟨w.heap.size, 4, none⟩), nilS, .int .i64 0, .int .i64 0, .bool false, .pointer (some ⟨w.heap.size, 0, none⟩), nilS, .int .i64 P, .int .i64 R, .int .i64 0, .int .i64 0, .bool false, undef, .agg #[nilS, nilS, nilS, nilS, nilS], .int .i64 P, .int .i64 R, .func (.func 126) #[] #[.pointer (some ⟨w1.heap.size + 1, 0, none⟩), .pointer (some ⟨w1.heap.size + 1 + 1, 0, none⟩), .pointer (some ⟨w1.heap.size + 1 + 1 + 1, 0, none⟩)], .agg #[nilS, .int .i64 a, .int .i64 P], undef, undef, undef, undef, undef, undef, undef, undef, undef, undef, undef, undef, undef, undef, undef, undef, undef, undef, undef, undef, undef, undef, undef, undef, undef, undef, undef, undef, undef, undef, undef, undef, undef, undef, undef, undef, undef], defers := [] })
    (fun i a' W l r o h hl => by obtain ⟨a, Bx, h1, h2⟩ := h; exact ⟨a, Bx, blk_own h1 (grownBy_putObj' W l o) (fun r e => by cases e; exact ⟨_, hl, rfl⟩), h2⟩)
    ?assign ?body ?done
  case assign =>
    rintro l i x W K hx hW hI hK
    match i, hx with
    | 0, rfl =>
      gi_wp2
      exact hK _ _ ((Below.refl _ W).alloc (Nat.le_refl _) _) ⟨P, W.heap.size, heap_new W _, rfl⟩
    | 1, rfl =>
      gi_wp2
      exact hK _ _ ((Below.refl _ W).alloc (Nat.le_refl _) _) ⟨0, W.heap.size, heap_new W _, rfl⟩
    | 2, rfl =>
      gi_wp2
      exact hK _ _ ((Below.refl _ W).alloc (Nat.le_refl _) _) ⟨0, W.heap.size, heap_new W _, rfl⟩
    | 3, rfl =>
      gi_wp2
      exact hK _ _ ((Below.refl _ W).alloc (Nat.le_refl _) _) ⟨R, W.heap.size, heap_new W _, rfl⟩
  case body =>
    rintro l i x a' W hx hW ⟨hi, hE⟩ ⟨a, Bx, hBx, rfl⟩
    obtain ⟨x0, x1, x2, xf⟩ := box3' hBx
    gi_wp2
    gi_loopw [44] (fun j wr => j = .int .i64 0 ∧ wr = W) (fun _ _ => 0)
    case atStart => exact ⟨rfl, rfl⟩
    case round =>
      obtain ⟨rfl, rfl⟩ := hrel
      gi_wp2
      exact ⟨⟨rfl, rfl⟩, fun k cs t f hk hne => hk, hi, hE⟩
  case done =>
    rintro W hW ⟨hi, hE⟩ hK
    obtain ⟨y0, yf⟩ := cellB hE
    gi_wp2
    try rw [Exit.noGoto_ret]
    refine ⟨by simp, .inl ⟨_, _, rfl, run_takeDeferred hK, ?_⟩⟩
    exact ⟨.int .i64 0, by simp [results, Tryz.results36, go_sem], rfl, hi.trans (below_putO _ (by rw [HZ.out]; omega) (lt_of_blk hK))⟩
end Go.Proofs.YthpanohdfelkhaaGreatDoor
