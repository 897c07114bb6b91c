/- valid's checks of places and operands at ParserDepth's bodies: a place of the one local x, of type int, without projection or with 1 to 32 dereferences. -/
import Derived.Test.YthpanohdfelkhaaGreatDoorTyp5
namespace Go.Proofs.YthpanohdfelkhaaGreatDoor
open Go.RowKit
/-- the one type and the one local in memory -/
structure Cx (w : World) (gt gl : Nat) : Prop where
  T : CellsAt w gt intCells
  l1 : w.cell? ⟨gl, 1, none⟩ = some (.int .i64 0)
theorem Cx.below {w w' : World} {gt gl : Nat} (h : Cx w gt gl) (hb : Below w.heap.size w w') : Cx w' gt gl := ⟨h.T.below hb, (hb.cell (p := ⟨gl, 1, none⟩) (block_of_cell h.l1)).trans h.l1⟩
theorem Cx.from {w w' : World} {gt gl : Nat} (h : Cx w gt gl) (hb : Hid (Below w.heap.size w w')) : Cx w' gt gl := h.below hb.out
/-- a checker's value -/
abbrev ckV (gt tc gl lc : Nat) (ba : Option Addr) (bc r : Nat) : Value := .agg #[.string ⟨#[102]⟩, nilS, nilS, .slice (some ⟨gt, 0, none⟩) 1 tc, .slice (some ⟨gl, 0, none⟩) 1 lc, .int .i64 0, .slice ba 1 bc, .pointer (some ⟨r, 0, none⟩)]
abbrev plV (sa : Option Addr) (n c : Nat) : Value := .agg #[.int .i64 0, .slice sa n c]
theorem box8 {w : World} {b : Nat} {x0 x1 x2 x3 x4 x5 x6 x7 : Value} {t : TypeId} (h : w.heap[b]? = some (.cells #[x0, x1, x2, x3, x4, x5, x6, x7] t (0, 0))) :
    w.cell? ⟨b, 0, none⟩ = some x0 ∧ w.cell? ⟨b, 1, none⟩ = some x1 ∧ w.cell? ⟨b, 2, none⟩ = some x2 ∧ w.cell? ⟨b, 3, none⟩ = some x3 ∧ w.cell? ⟨b, 4, none⟩ = some x4 ∧ w.cell? ⟨b, 5, none⟩ = some x5 ∧ w.cell? ⟨b, 6, none⟩ = some x6 ∧ w.cell? ⟨b, 7, none⟩ = some x7 := by
  refine ⟨?_, ?_, ?_, ?_, ?_, ?_, ?_, ?_⟩ <;> rw [cell_of_blk h] <;> rfl
set_option maxRecDepth 100000 in
set_option maxHeartbeats 1000000 in
theorem zero_gen (sa : Option Addr) (c : Nat) (w : World) : Calls Tryz.prog 108 #[plV sa 0 c] w fun e w' => e = .returned (.bool true) ∧ Below w.heap.size w w' := by
  go_enter Tryz.func108, Tryz.ntmps108
  go_wp2_with fail
  go_ret
  exact ⟨rfl, (Below.refl _ _).alloc (Nat.le_refl _) _⟩
set_option maxHeartbeats 1000000 in
theorem failed_no (w : World) : Calls Tryz.prog 113 #[.bool false] w fun e w' => e = .returned (.int .i64 0) ∧ Below w.heap.size w w' := by
  go_enter Tryz.func113, Tryz.ntmps113
  go_wp2_with fail
  go_ret
  exact ⟨rfl, Below.refl _ _⟩
set_option maxRecDepth 100000 in
set_option maxHeartbeats 1000000 in
theorem ctypeOf_none (gt tc gl lc : Nat) (ba : Option Addr) (bc r : Nat) (sa : Option Addr) (c : Nat) (w : World) (h : Cx w gt gl) :
    Calls Tryz.prog 116 #[ckV gt tc gl lc ba bc r, plV sa 0 c] w fun e w' => e = .returned (.tuple #[.int .i64 0, .int .i64 0]) ∧ Below w.heap.size w w' := by
  have H := fun a b => Lib.hid ((h.below ((Below.refl _ w).alloc (Nat.le_refl _) a)).below ((Below.refl _ (w.alloc a)).alloc (Nat.le_refl _) b)).l1
  clear h
  go_enter Tryz.func116, Tryz.ntmps116
  go_wp2_with (go_at_call 148; refine (typeOf_none _ _ _ _ _ _ _ _ (H _ _).out).mono ?_; rintro e w1 ⟨rfl, hb1⟩)
  go_ret2
  exact ⟨rfl, (((Below.refl _ _).alloc (Nat.le_refl _) _).alloc (by simp) _).trans (hb1.mono (by simp; omega))⟩
set_option maxRecDepth 100000 in
set_option maxHeartbeats 1000000 in
theorem ctypeOf_some (gt tc gl lc : Nat) (ba : Option Addr) (bc r g k c : Nat) (w : World) (h : Cx w gt gl) (hk1 : 1 ≤ k) (hk32 : k ≤ 32) (hs : Stars w g k) :
    Calls Tryz.prog 116 #[ckV gt tc gl lc ba bc r, plV (some ⟨g, 0, none⟩) k c] w fun e w' => e = .returned (.tuple #[.int .i64 0, .int .i64 22]) ∧ Below w.heap.size w w' := by
  have HB := fun a b => Lib.hid (((Below.refl _ w).alloc (Nat.le_refl _) a).alloc (by simp) b)
  have H := fun a b => Lib.hid (h.from (HB a b))
  have HS := fun a b => Lib.hid (hs.below (block_of_cell (hs 0 hk1).1) (HB a b).out)
  clear h hs HB
  go_enter Tryz.func116, Tryz.ntmps116
  go_wp2_with (go_at_call 148; refine (typeOf_some gt _ gl _ g k _ _ (H _ _).out.l1 hk1 hk32 (HS _ _).out ((H _ _).out.T 0 _ rfl) ((H _ _).out.T 1 _ rfl) ((H _ _).out.T 2 _ rfl) ((H _ _).out.T 3 _ rfl) ((H _ _).out.T 4 _ rfl)).mono ?_; rintro e w1 ⟨rfl, hb1⟩)
  go_ret2
  exact ⟨rfl, (((Below.refl _ _).alloc (Nat.le_refl _) _).alloc (by simp) _).trans (hb1.mono (by simp; omega))⟩
end Go.Proofs.YthpanohdfelkhaaGreatDoor
