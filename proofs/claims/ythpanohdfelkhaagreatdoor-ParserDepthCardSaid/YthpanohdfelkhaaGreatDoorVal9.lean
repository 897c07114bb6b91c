/- valid's checks of the rvalue 'copy x..' and of the statement 'x = copy x..'. -/
import Derived.Test.YthpanohdfelkhaaGreatDoorVal8
namespace Go.Proofs.YthpanohdfelkhaaGreatDoor
open Go.RowKit
theorem three_below {w w1 : World} {a b c : Obj} (h : Below (((w.alloc a).alloc b).alloc c).heap.size (((w.alloc a).alloc b).alloc c) w1) : Hid (Below w.heap.size w w1) ∧ w1.heap[w.heap.size]? = some a ∧ w1.heap[w.heap.size + 1]? = some b ∧ w1.heap[w.heap.size + 1 + 1]? = some c ∧ w.heap.size + 1 + 1 < w1.heap.size :=
  ⟨((((Below.refl _ w).alloc (Nat.le_refl _) a).alloc (by simp) b).alloc (by simp only [World.size_alloc]; omega) c).trans (h.mono (by simp only [World.size_alloc]; omega)), (h.block _ (by simp only [World.size_alloc]; omega)).trans (three_new' w a b c).1, (h.block _ (by simp only [World.size_alloc]; omega)).trans (three_new' w a b c).2.1, (h.block _ (by simp only [World.size_alloc]; omega)).trans (three_new' w a b c).2.2, by have := h.size; simp only [World.size_alloc] at this; omega⟩
abbrev rvV (a : Nat) : Value := .agg #[.int .i64 0, .int .i64 0, .int .i64 0, .bool false, .int .i64 0, nilS, .slice (some ⟨a, 0, none⟩) 1 1]
set_option maxRecDepth 100000 in
set_option maxHeartbeats 2000000 in
theorem unused_c (a : Nat) (w : World) : Calls Tryz.prog 142 #[rvV a] w fun e w' => e = .returned (.bool true) ∧ Below w.heap.size w w' := by
  go_enter Tryz.func142, Tryz.ntmps142
  go_wp2_with (go_at_call 108; refine (zero_gen none 0 _).mono ?_; rintro e w1 ⟨rfl, hb1⟩; have hs1 := hb1.size; simp only [World.size_alloc] at hs1; have m0 := (hb1.block w.heap.size (by simp)).trans (heap_new w _); obtain ⟨x0, x1, x2, x3, x4, x5, x6⟩ := box7 m0; have B1 : Hid (Below w.heap.size w w1) := ((Below.refl _ _).alloc (Nat.le_refl _) _).trans (hb1.mono (by simp)); clear hb1)
  go_ret
  exact ⟨rfl, B1.out⟩
set_option maxRecDepth 100000 in
set_option maxHeartbeats 2000000 in
theorem rvalue_c (E : Int) (gt tc gl lc : Nat) (ba : Option Addr) (bc r a : Nat) (w : World)
    (hop : ∀ W f, Below w.heap.size w W → W.cell? ⟨f, 0, none⟩ = some (.int .i64 0) → Calls Tryz.prog 115 #[ckV gt tc gl lc ba bc r, .slice (some ⟨a, 0, none⟩) 1 1, .slice (some ⟨f, 0, none⟩) 1 1] W fun e w' => e = .returned (.int .i64 E) ∧ Below W.heap.size W w') :
    Calls Tryz.prog 110 #[ckV gt tc gl lc ba bc r, rvV a, .int .i64 0] w fun e w' => e = .returned (.int .i64 E) ∧ Below w.heap.size w w' := by
  have HO := Lib.hid hop; clear hop
  go_enter Tryz.func110, Tryz.ntmps110
  go_wp2_with (first
    | (go_at_call 142; refine (unused_c a _).mono ?_; rintro e w1 ⟨rfl, hb1⟩; obtain ⟨B1, m0, m1, hz1⟩ := two_below hb1; obtain ⟨x0, x1, x2, x3, x4, x5, x6, x7⟩ := box8 m0; obtain ⟨y0, y1, y2, y3, y4, y5, y6⟩ := box7 m1; clear hb1)
    | (go_at_call 115; refine (HO.out _ w1.heap.size (B1.out.alloc B1.out.size _) (by rw [cell_of_blk (heap_new w1 _)]; rfl)).mono ?_; rintro e w2 ⟨rfl, hb2⟩; have B2 : Hid (Below w.heap.size w w2) := (B1.out.alloc B1.out.size _).trans (hb2.mono (by have := B1.out.size; simp only [World.size_alloc]; omega)); clear hb2))
  go_ret
  exact ⟨rfl, B2.out⟩
set_option maxRecDepth 100000 in
set_option maxHeartbeats 2000000 in
theorem stmt_c (E : Int) (gt tc gl lc : Nat) (ba : Option Addr) (bc r a : Nat) (sa0 : Option Addr) (sc0 : Nat) (w : World) (h : Cx w gt gl)
    (hrv : ∀ W, Below w.heap.size w W → Calls Tryz.prog 110 #[ckV gt tc gl lc ba bc r, rvV a, .int .i64 0] W fun e w' => e = .returned (.int .i64 E) ∧ Below W.heap.size W w') :
    Calls Tryz.prog 59 #[ckV gt tc gl lc ba bc r, .agg #[.int .i64 0, .int .i64 0, .slice sa0 0 sc0, .int .i64 0, .int .i64 0, .int .i64 0, .bool false, .int .i64 0, nilS, .slice (some ⟨a, 0, none⟩) 1 1, .int .i64 0]] w fun e w' => e = .returned (.int .i64 E) ∧ Below w.heap.size w w' := by
  have HR := Lib.hid hrv; clear hrv
  have HC := Lib.hid h; clear h
  go_enter Tryz.func59, Tryz.ntmps59
  go_wp2_with (first
    | (go_at_call 108; refine (zero_gen sa0 sc0 _).mono ?_; rintro e w1 ⟨rfl, hb1⟩; obtain ⟨B1, m0, m1, m2, hz1⟩ := three_below hb1; obtain ⟨x0, x1, x2, x3, x4, x5, x6, x7⟩ := box8 m0; obtain ⟨y0, y1, y2, y3, y4, y5, y6, y7, y8, y9, y10⟩ := box11 m1; obtain ⟨v0, v1, v2, v3, v4, v5, v6⟩ := box7 m2; clear hb1)
    | (go_at_call 109; refine (writable_none gt tc gl lc ba bc r _ _ _ (HC.out.from B1)).mono ?_; rintro e w2 ⟨rfl, hb2⟩; have B2 : Hid (Below w.heap.size w w2) := B1.out.trans (hb2.mono B1.out.size); have hz2 := Nat.lt_of_lt_of_le hz1 hb2.size; have n0 := kept hb2 m0; have n2 := kept hb2 m2; obtain ⟨p0, p1, p2, p3, p4, p5, p6, p7⟩ := box8 n0; obtain ⟨q0, q1, q2, q3, q4, q5, q6⟩ := box7 n2; clear hb2)
    | (go_at_call 110; refine (HR.out _ B2.out).mono ?_; rintro e w3 ⟨rfl, hb3⟩; have B3 : Hid (Below w.heap.size w w3) := B2.out.trans (hb3.mono B2.out.size); clear hb3))
  go_ret
  exact ⟨rfl, B3.out⟩
end Go.Proofs.YthpanohdfelkhaaGreatDoor
