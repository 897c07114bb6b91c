/- valid's checks of operands and rvalues at ParserDepth's bodies. -/
import Derived.Test.YthpanohdfelkhaaGreatDoorVal6
namespace Go.Proofs.YthpanohdfelkhaaGreatDoor
open Go.RowKit
/-- two boxes have been laid, then a callee has run -/
theorem two_below {w w1 : World} {a b : Obj} (h : Below ((w.alloc a).alloc b).heap.size ((w.alloc a).alloc b) w1) : Hid (Below w.heap.size w w1) ∧ w1.heap[w.heap.size]? = some a ∧ w1.heap[w.heap.size + 1]? = some b ∧ w.heap.size + 1 < w1.heap.size :=
  ⟨(((Below.refl _ w).alloc (Nat.le_refl _) a).alloc (by simp) b).trans (h.mono (by simp only [World.size_alloc]; omega)), (h.block _ (by simp only [World.size_alloc]; omega)).trans (two_new0 w a b), (h.block _ (by simp only [World.size_alloc]; omega)).trans (two_new1 w a b), by have := h.size; simp only [World.size_alloc] at this; omega⟩
theorem two_zero (w : World) : ∀ i, i < 2 → (w.alloc (.cells #[.int .i64 0, .int .i64 0] 39)).cell? ⟨w.heap.size, i, none⟩ = some (.int .i64 0) := by
  intro i hi
  rw [cell_of_blk (heap_new w _)]
  have : i = 0 ∨ i = 1 := by omega
  rcases this with rfl | rfl <;> rfl
theorem kept {w1 w2 : World} {b : Nat} {o : Obj} (h : Below w1.heap.size w1 w2) (hb : w1.heap[b]? = some o) : w2.heap[b]? = some o := (h.block b (lt_of_blk hb)).trans hb
set_option maxRecDepth 100000 in
set_option maxHeartbeats 2000000 in
theorem writable_none (gt tc gl lc : Nat) (ba : Option Addr) (bc r : Nat) (sa : Option Addr) (c : Nat) (w : World) (h : Cx w gt gl) :
    Calls Tryz.prog 109 #[ckV gt tc gl lc ba bc r, plV sa 0 c] w fun e w' => e = .returned (.tuple #[.int .i64 0, .int .i64 0]) ∧ Below w.heap.size w w' := by
  have HB := fun a b => Lib.hid (((Below.refl _ w).alloc (Nat.le_refl _) a).alloc (by simp) b)
  have H0 := fun a b => Lib.hid (h.from (HB a b))
  clear HB
  have HC := Lib.hid h; clear h
  go_enter Tryz.func109, Tryz.ntmps109
  go_wp2_with (first
    | (go_at_call 116; refine (ctypeOf_none gt tc gl lc ba bc r _ _ _ (H0 _ _).out).mono ?_; rintro e w1 ⟨rfl, hb1⟩; obtain ⟨B1, m0, m1, hz1⟩ := two_below hb1; obtain ⟨x0, x1, x2, x3, x4, x5, x6, x7⟩ := box8 m0; obtain ⟨y0, y1, yf0, yf1⟩ := cellP m1; clear hb1)
    | (go_at_call 141; refine (mutable_none _ _ _ gl lc _ _ _ (HC.out.from B1).l1).mono ?_; rintro e w2 ⟨rfl, hb2⟩; have B2 : Hid (Below w.heap.size w w2) := B1.out.trans (hb2.mono B1.out.size); clear hb2)
    | (go_at_call 113; refine (failed_no _).mono ?_; rintro e w3 ⟨rfl, hb3⟩; have B3 : Hid (Below w.heap.size w w3) := B2.out.trans (hb3.mono B2.out.size); clear hb3)
    | (go_at_call 102; refine (first_ok w3.heap.size 2 _ (by decide) (two_zero w3) (by simp)).mono ?_; rintro e w4 ⟨rfl, hb4⟩; have B4 : Hid (Below w.heap.size w w4) := (B3.out.alloc B3.out.size _).trans (hb4.mono (by have := B3.out.size; simp only [World.size_alloc]; omega)); clear hb4))
  go_ret2
  exact ⟨rfl, B4.out⟩
abbrev opV (sa : Option Addr) (k c : Nat) : Value := .agg #[.int .i64 0, .int .i64 0, .slice sa k c, .int .i64 0]
set_option maxRecDepth 100000 in
set_option maxHeartbeats 2000000 in
theorem operand_none (gt tc gl lc : Nat) (ba : Option Addr) (bc r : Nat) (sa : Option Addr) (c : Nat) (w : World) (h : Cx w gt gl) :
    Calls Tryz.prog 112 #[ckV gt tc gl lc ba bc r, opV sa 0 c] w fun e w' => e = .returned (.int .i64 0) ∧ Below w.heap.size w w' := by
  have HB := fun a b => Lib.hid (((Below.refl _ w).alloc (Nat.le_refl _) a).alloc (by simp) b)
  have H0 := fun a b => Lib.hid (h.from (HB a b))
  clear HB
  have HC := Lib.hid h; clear h
  go_enter Tryz.func112, Tryz.ntmps112
  go_wp2_with (first
    | (go_at_call 116; refine (ctypeOf_none gt tc gl lc ba bc r _ _ _ (H0 _ _).out).mono ?_; rintro e w1 ⟨rfl, hb1⟩; obtain ⟨B1, m0, m1, hz1⟩ := two_below hb1; obtain ⟨x0, x1, x2, x3, x4, x5, x6, x7⟩ := box8 m0; obtain ⟨y0, y1, y2, y3⟩ := box4' m1; clear hb1)
    | (go_at_call 146; refine (copyable_int gt tc _ (HC.out.from B1).T).mono ?_; rintro e w2 ⟨rfl, hb2⟩; have B2 : Hid (Below w.heap.size w w2) := B1.out.trans (hb2.mono B1.out.size); clear hb2)
    | (go_at_call 113; refine (failed_no _).mono ?_; rintro e w3 ⟨rfl, hb3⟩; have B3 : Hid (Below w.heap.size w w3) := B2.out.trans (hb3.mono B2.out.size); clear hb3))
  go_ret
  exact ⟨rfl, B3.out⟩
set_option maxRecDepth 100000 in
set_option maxHeartbeats 2000000 in
theorem operand_some (gt tc gl lc : Nat) (ba : Option Addr) (bc r g k c : Nat) (w : World) (h : Cx w gt gl) (hk1 : 1 ≤ k) (hk32 : k ≤ 32) (hs : Stars w g k) :
    Calls Tryz.prog 112 #[ckV gt tc gl lc ba bc r, opV (some ⟨g, 0, none⟩) k c] w fun e w' => e = .returned (.int .i64 22) ∧ Below w.heap.size w w' := by
  have HB := fun a b => Lib.hid (((Below.refl _ w).alloc (Nat.le_refl _) a).alloc (by simp) b)
  have H0 := fun a b => Lib.hid (h.from (HB a b))
  have HS := fun a b => Lib.hid (hs.below (block_of_cell (hs 0 hk1).1) (HB a b).out)
  clear HB h hs
  go_enter Tryz.func112, Tryz.ntmps112
  go_wp2_with (go_at_call 116; refine (ctypeOf_some gt tc gl lc ba bc r g k _ _ (H0 _ _).out hk1 hk32 (HS _ _).out).mono ?_; rintro e w1 ⟨rfl, hb1⟩; obtain ⟨B1, m0, m1, hz1⟩ := two_below hb1; clear hb1)
  go_ret
  exact ⟨rfl, B1.out⟩
set_option maxRecDepth 100000 in
set_option maxHeartbeats 2000000 in
theorem fits_none (gt tc gl lc : Nat) (ba : Option Addr) (bc r : Nat) (sa : Option Addr) (c : Nat) (w : World) (h : Cx w gt gl) :
    Calls Tryz.prog 147 #[ckV gt tc gl lc ba bc r, opV sa 0 c, .int .i64 0] w fun e w' => e = .returned (.bool true) ∧ Below w.heap.size w w' := by
  have HB := fun a b => Lib.hid (((Below.refl _ w).alloc (Nat.le_refl _) a).alloc (by simp) b)
  have H0 := fun a b => Lib.hid (h.from (HB a b))
  clear HB
  have HC := Lib.hid h; clear h
  go_enter Tryz.func147, Tryz.ntmps147
  go_wp2_with (first
    | (go_at_call 116; refine (ctypeOf_none gt tc gl lc ba bc r _ _ _ (H0 _ _).out).mono ?_; rintro e w1 ⟨rfl, hb1⟩; obtain ⟨B1, m0, m1, hz1⟩ := two_below hb1; obtain ⟨x0, x1, x2, x3, x4, x5, x6, x7⟩ := box8 m0; obtain ⟨y0, y1, y2, y3⟩ := box4' m1; clear hb1)
    | (go_at_call 174; refine (subtype_int r gt tc _ (HC.out.from B1).T).mono ?_; rintro e w2 ⟨rfl, hb2⟩; have B2 : Hid (Below w.heap.size w w2) := B1.out.trans (hb2.mono B1.out.size); clear hb2))
  go_ret
  exact ⟨rfl, B2.out⟩
end Go.Proofs.YthpanohdfelkhaaGreatDoor
