/- intern.IsIdent at any string. -/
import Derived.Test.YthpanohdfelkhaaGreatDoorGlob
import Derived.Shelf.Strings.SlTrimAscii
namespace Go.Proofs.YthpanohdfelkhaaGreatDoor
open Go.RowKit
/-- what IsIdent trims by: letters, then digits -/
def identSet : ByteArray := ⟨#[95, 97, 98, 99, 100, 101, 102, 103, 104, 105, 106, 107, 108, 109, 110, 111, 112, 113, 114, 115, 116, 117, 118, 119, 120, 121, 122, 65, 66, 67, 68, 69, 70, 71, 72, 73, 74, 75, 76, 77, 78, 79, 80, 81, 82, 83, 84, 85, 86, 87, 88, 89, 90, 48, 49, 50, 51, 52, 53, 54, 55, 56, 57]⟩
set_option maxRecDepth 100000 in
set_option maxHeartbeats 1000000 in
/-- a string of one letter -/
theorem ident_one (c : UInt8) (w : World) (h1 : Lib.indexByte Lx.digits c < 0) (h2 : Lib.trimS [c] identSet.data.toList = []) :
    Calls Tryz.prog 101 #[.string ⟨#[c]⟩] w fun e w' => e = .returned (.bool true) ∧ Below w.heap.size w w' := by
  have hcon : ∀ w : World, Calls Tryz.prog 138 #[.string ⟨#[c]⟩, .string identSet] w fun e w' => e = .returned (.string ⟨#[]⟩) ∧ Below w.heap.size w w' := fun w => by
    have := Any.strings_Trim_laid Tryz.lays160 (by kernel_rfl) ⟨#[c]⟩ identSet w (by show 1 ≤ 9223372036854775807; decide) (by decide) (ascii_of_all (by decide))
    rw [show (⟨#[c]⟩ : ByteArray).data.toList = [c] from rfl, h2] at this
    exact this
  unfold identSet at hcon
  go_enter Tryz.func101, Tryz.ntmps101
  go_wp2_with (first
    | (go_at_call 86; refine (indexByte_c _ _ _).mono ?_; rintro e w1 ⟨rfl, rfl⟩)
    | (go_at_call 138; refine (hcon _).mono ?_; rintro e w2 ⟨rfl, hb2⟩))
  go_ret
  exact ⟨rfl, hb2⟩
end Go.Proofs.YthpanohdfelkhaaGreatDoor
