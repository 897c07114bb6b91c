/- What the package-level variables hold, as far as the walks read them, and that it stays so where the first blocks are left alone. No condition. -/
import Derived.Test.YthpanohdfelkhaaGreatDoorLex1
import Derived.Lib.LaidTab
namespace Go.Proofs.YthpanohdfelkhaaGreatDoor
open Go.RowKit
/-- the cells of the two tables of operators -/
def unCells : List Int := [2, 2, 1, 1]
def biCells : List Int := [2, 2, 2, 2, 2, 2, 2, 1, 2, 1, 1, 1]
structure Glob (w : World) : Prop where
  sp : Lib.TabIs Tryz.prog w "strings.asciiSpace" .u8 Lib.asciiSpaceTab
  es : ∃ te pe, w.cell? ⟨5, 0, none⟩ = some (.iface te pe)
  er : ∃ te pe, w.cell? ⟨6, 0, none⟩ = some (.iface te pe)
  un : ∀ i z, unCells[i]? = some z → w.cell? ⟨2, i, none⟩ = some (.int .i64 z)
  bi : ∀ i z, biCells[i]? = some z → w.cell? ⟨3, i, none⟩ = some (.int .i64 z)
  sz : 13 ≤ w.heap.size
theorem Glob.keep {w w' : World} (h : Glob w) (hs : w.heap.size ≤ w'.heap.size) (hb : ∀ k, k < 13 → w'.heap[k]? = w.heap[k]?) : Glob w' := by
  have hc : ∀ b o, b < 13 → w'.cell? ⟨b, o, none⟩ = w.cell? ⟨b, o, none⟩ := fun b o hk => World.cell?_of_block (w := w) (a := ⟨b, o, none⟩) (hb b hk)
  refine ⟨?_, ?_, ?_, ?_, ?_, Nat.le_trans h.sz hs⟩
  · have h1 := h.sp
    have hg : Tryz.prog.globalNamed "strings.asciiSpace" = some 1 := by kernel_rfl
    unfold Lib.TabIs World.var? at *
    rw [hg] at h1 ⊢
    simp only [Option.bind_some] at h1 ⊢
    rw [hb _ (by omega)]; exact h1
  · obtain ⟨te, pe, h1⟩ := h.es; exact ⟨te, pe, by rw [hc _ _ (by omega)]; exact h1⟩
  · obtain ⟨te, pe, h1⟩ := h.er; exact ⟨te, pe, by rw [hc _ _ (by omega)]; exact h1⟩
  · intro i z hz; rw [hc _ _ (by omega)]; exact h.un i z hz
  · intro i z hz; rw [hc _ _ (by omega)]; exact h.bi i z hz
theorem Glob.below {w w' : World} (h : Glob w) (hb : Below w.heap.size w w') : Glob w' := h.keep hb.size fun k hk => hb.block k (Nat.lt_of_lt_of_le hk h.sz)
theorem Glob.fr {p : Nat} {w w' : World} (h : Glob w) (hb : Fr p w w') (hp : 13 ≤ p) : Glob w' := h.keep hb.size fun k hk => hb.block k (Nat.lt_of_lt_of_le hk h.sz) (by omega)
theorem Glob.alloc {w : World} (h : Glob w) (o : Obj) : Glob (w.alloc o) := h.below ((Below.refl _ _).alloc (Nat.le_refl _) o)
theorem Glob.drew {w : World} (h : Glob w) : Glob w.drew := h.below (Below.refl _ _).drew
theorem below_bytes (w : World) (t : TypeId) (s : ByteArray) : Below w.heap.size w (Lib.bytesWorld w t s) := by
  have hz : ∀ (x : World) (a : Addr) (n : Nat), (x.freeze a n).heap.size = x.heap.size := by
    intro x a n; unfold World.freeze; split <;> simp
  have hk' : ∀ (x : World) (a : Addr) (n k : Nat), k ≠ a.block → (x.freeze a n).heap[k]? = x.heap[k]? := by
    intro x a n k hk; unfold World.freeze; split
    · rfl
    · simp only [Array.getElem?_modify]; rw [if_neg (by omega)]
  refine ⟨?_, ?_, ?_, ?_, ?_⟩
  · unfold Lib.bytesWorld World.freeze; split <;> rfl
  · unfold Lib.bytesWorld World.freeze; split <;> rfl
  · unfold Lib.bytesWorld World.freeze; split <;> rfl
  · unfold Lib.bytesWorld; rw [hz]; show w.heap.size ≤ (w.heap.push _).size; simp
  · intro k hk
    unfold Lib.bytesWorld
    rw [hk' _ _ _ _ (by show k ≠ w.heap.size; omega)]
    exact Below.heap_alloc w.drew _ k hk
end Go.Proofs.YthpanohdfelkhaaGreatDoor
