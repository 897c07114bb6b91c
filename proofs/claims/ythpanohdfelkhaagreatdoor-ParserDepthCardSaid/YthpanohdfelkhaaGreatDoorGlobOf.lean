/- From the row's condition on the listed variables to what the walks read of them. -/
import Derived.Test.YthpanohdfelkhaaGreatDoorRows
import Derived.Test.YthpanohdfelkhaaGreatDoorGlob
import Derived.Lib.LaidU8
import Derived.OpenShut
import Derived.LaidLaws
import Derived.LaidMore
namespace Go.Proofs.YthpanohdfelkhaaGreatDoor
open Go.RowKit
theorem opers_of (t : TypeId) (n : Nat) (zs : List (List Int)) {W : World} {nm : String} {g : Nat} (hg : Tryz.prog.globalNamed nm = some g) (hty : (Tryz.prog.globals[g]?).map (·.type) = some t)
    (ht : Tryz.prog.underlying t = some (.array n 224)) (hn : zs.length = n) (h : Lib.VarReads Tryz.prog W nm (.agg (zs.map fun z => .agg (z.map fun x => .lit (.int .i64 x))))) :
    ∀ i j z, (zs[i]?.bind (·[j]?)) = some z → j < 2 → W.cell? ⟨g, i * 2 + j, none⟩ = some (.int .i64 z) := by
  obtain ⟨g', t', cs, fuel, p, hg', ht', hv, hd⟩ := h
  obtain rfl := Option.some.inj (hg.symm.trans hg')
  obtain rfl := Option.some.inj (hty.symm.trans ht')
  intro i j z hij hj
  obtain ⟨zi, hzi, hzj⟩ := Option.bind_eq_some_iff.1 hij
  have hi : i < n := by rw [← hn]; exact (List.getElem?_eq_some_iff.1 hzi).1
  obtain ⟨fuel', d, q, hdi, htr⟩ := Lib.array_elem ht hd i hi
  have hd' : d = .agg (zi.map fun x => .lit (.int .i64 x)) := by
    rw [List.getElem?_map, hzi] at hdi
    simpa using hdi.symm
  subst hd'
  have c2 : Tryz.prog.cellsOf 224 = 2 := by kernel_rfl
  have uo := Tryz.underlying224
  rw [c2] at htr
  have hcs := Lib.ints_of_struct (k := .i64) uo (by intro k f hf; match k, hf with | 0, rfl => exact ⟨by kernel_rfl, rfl, by kernel_rfl⟩ | 1, rfl => exact ⟨by kernel_rfl, rfl, by kernel_rfl⟩) (by kernel_rfl) htr
  have hcell : cs[i * 2 + j]? = some (.int .i64 z) := by
    have := congrArg (·[j]?) hcs
    simp only [List.getElem?_take, List.getElem?_drop, List.getElem?_map, hzj, Option.map_some] at this
    rw [if_pos hj] at this
    simpa using this
  have := World.var?_cell hg hv (i * 2 + j)
  rw [this]; exact hcell
theorem iface_at {W : World} {nm tn : String} {d : DataW Unit} {g : Nat} (hg : Tryz.prog.globalNamed nm = some g) (hty : (Tryz.prog.globals[g]?).map (·.type) = some 90)
    (h : Lib.VarReads Tryz.prog W nm (.iface tn d)) : ∃ te pe, W.cell? ⟨g, 0, none⟩ = some (.iface te pe) := by
  obtain ⟨g', t', cs, fuel, p, hg', ht', hv, hd⟩ := h
  obtain rfl := Option.some.inj (hg.symm.trans hg')
  obtain rfl := Option.some.inj (hty.symm.trans ht')
  obtain ⟨f1, u, v, hcs, _, _⟩ := iface_of_trod Tryz.underlying90 hd
  refine ⟨u, v, ?_⟩
  have := World.var?_cell hg hv 0
  rw [this, ← Array.getElem?_toList, hcs]; rfl
theorem glob_of {W : World} (h : laidMet Tryz.prog Rows.parserDepthRow.laid W) (hsh : W.ShapedOpen Tryz.prog) : Glob W := by
  have r := fun n d hm => Lib.laidMet.reads (n := n) (d := d) h hm
  refine ⟨?_, ?_, ?_, ?_, ?_, ?_⟩
  · obtain ⟨g', t', cs, fuel, p, hg', ht', hv, hd⟩ := r "strings.asciiSpace" Rows.laid_strings_asciiSpace (by simp [Rows.parserDepthRow])
    obtain rfl := Option.some.inj ((show Tryz.prog.globalNamed "strings.asciiSpace" = some 1 by kernel_rfl).symm.trans hg')
    obtain rfl := Option.some.inj ((show (Tryz.prog.globals[1]?).map (·.type) = some 201 by kernel_rfl).symm.trans ht')
    have e : (Rows.laid_strings_asciiSpace : DataW Unit) = Lib.tabData .u8 Lib.asciiSpaceTab := by kernel_rfl
    rw [e] at hd
    unfold Lib.TabIs
    rw [hv, ← Lib.cells_of_tab Tryz.underlying201 Tryz.underlying5 (by kernel_rfl) (by kernel_rfl) hd]
  · exact iface_at (by kernel_rfl) (by kernel_rfl) (r "strconv.ErrSyntax" Rows.laid_strconv_ErrSyntax (by simp [Rows.parserDepthRow]))
  · exact iface_at (by kernel_rfl) (by kernel_rfl) (r "strconv.ErrRange" Rows.laid_strconv_ErrRange (by simp [Rows.parserDepthRow]))
  · have hu := opers_of 225 2 [[2, 2], [1, 1]] (g := 2) (by kernel_rfl) (by kernel_rfl) Tryz.underlying225 rfl (r "mirtower/valid.unary" Rows.laid_mirtower_valid_unary (by simp [Rows.parserDepthRow]))
    intro i z hz
    have hi : i < 4 := (List.getElem?_eq_some_iff.1 hz).1
    have key := hu (i / 2) (i % 2) z
    rw [show i / 2 * 2 + i % 2 = i by omega] at key
    refine key ?_ (by omega)
    have : i = 0 ∨ i = 1 ∨ i = 2 ∨ i = 3 := by omega
    rcases this with rfl | rfl | rfl | rfl <;> exact hz
  · have hu := opers_of 226 6 [[2, 2], [2, 2], [2, 2], [2, 1], [2, 1], [1, 1]] (g := 3) (by kernel_rfl) (by kernel_rfl) Tryz.underlying226 rfl (r "mirtower/valid.binary" Rows.laid_mirtower_valid_binary (by simp [Rows.parserDepthRow]))
    intro i z hz
    have hi : i < 12 := (List.getElem?_eq_some_iff.1 hz).1
    have key := hu (i / 2) (i % 2) z
    rw [show i / 2 * 2 + i % 2 = i by omega] at key
    refine key ?_ (by omega)
    have : i = 0 ∨ i = 1 ∨ i = 2 ∨ i = 3 ∨ i = 4 ∨ i = 5 ∨ i = 6 ∨ i = 7 ∨ i = 8 ∨ i = 9 ∨ i = 10 ∨ i = 11 := by omega
    rcases this with rfl | rfl | rfl | rfl | rfl | rfl | rfl | rfl | rfl | rfl | rfl | rfl <;> exact hz
  · obtain ⟨cs, hh, _⟩ := hsh.1 12 #[.pointer none] 239 (of_decide_eq_true (by kernel_rfl)) (by kernel_rfl)
    exact lt_of_blk hh
end Go.Proofs.YthpanohdfelkhaaGreatDoor
