/- places.Mutable at a place of local 0 without projection: true. -/
import Derived.Test.YthpanohdfelkhaaGreatDoorTyp3
import Derived.Test.YthpanohdfelkhaaGreatDoorVal2
namespace Go.Proofs.YthpanohdfelkhaaGreatDoor
open Go.RowKit Go.Shelf
attribute [local go_sem] Oper.semAt_some
theorem eight_new (w : World) (a b c d e f g h : Obj) : ((((((((w.alloc a).alloc b).alloc c).alloc d).alloc e).alloc f).alloc g).alloc h).heap[w.heap.size]? = some a ∧ ((((((((w.alloc a).alloc b).alloc c).alloc d).alloc e).alloc f).alloc g).alloc h).heap[w.heap.size + 1]? = some b ∧ ((((((((w.alloc a).alloc b).alloc c).alloc d).alloc e).alloc f).alloc g).alloc h).heap[w.heap.size + 1 + 1]? = some c ∧ ((((((((w.alloc a).alloc b).alloc c).alloc d).alloc e).alloc f).alloc g).alloc h).heap[w.heap.size + 1 + 1 + 1]? = some d ∧ ((((((((w.alloc a).alloc b).alloc c).alloc d).alloc e).alloc f).alloc g).alloc h).heap[w.heap.size + 1 + 1 + 1 + 1]? = some e ∧ ((((((((w.alloc a).alloc b).alloc c).alloc d).alloc e).alloc f).alloc g).alloc h).heap[w.heap.size + 1 + 1 + 1 + 1 + 1]? = some f ∧ ((((((((w.alloc a).alloc b).alloc c).alloc d).alloc e).alloc f).alloc g).alloc h).heap[w.heap.size + 1 + 1 + 1 + 1 + 1 + 1]? = some g ∧ ((((((((w.alloc a).alloc b).alloc c).alloc d).alloc e).alloc f).alloc g).alloc h).heap[w.heap.size + 1 + 1 + 1 + 1 + 1 + 1 + 1]? = some h := by
  have h0 := heap_new w a
  have h1 := heap_new (w.alloc a) b
  have h2 := heap_new ((w.alloc a).alloc b) c
  have h3 := heap_new (((w.alloc a).alloc b).alloc c) d
  have h4 := heap_new ((((w.alloc a).alloc b).alloc c).alloc d) e
  have h5 := heap_new (((((w.alloc a).alloc b).alloc c).alloc d).alloc e) f
  have h6 := heap_new ((((((w.alloc a).alloc b).alloc c).alloc d).alloc e).alloc f) g
  have h7 := heap_new (((((((w.alloc a).alloc b).alloc c).alloc d).alloc e).alloc f).alloc g) h
  simp only [World.size_alloc] at h0 h1 h2 h3 h4 h5 h6 h7
  exact ⟨(older (older (older (older (older (older (older (h0)))))))), (older (older (older (older (older (older (h1))))))), (older (older (older (older (older (h2)))))), (older (older (older (older (h3))))), (older (older (older (h4)))), (older (older (h5))), (older (h6)), (h7)⟩
set_option maxRecDepth 100000 in
set_option maxHeartbeats 2000000 in
theorem refs_none (ta : Option Addr) (tn tc lb lc : Nat) (sa : Option Addr) (sc : Nat) (w : World) (hl : w.cell? ⟨lb, 1, none⟩ = some (.int .i64 0)) :
    Calls Tryz.prog 166 #[.slice ta tn tc, .slice (some ⟨lb, 0, none⟩) 1 lc, .agg #[.int .i64 0, .slice sa 0 sc]] w fun e w' => e = .returned (.tuple #[.slice none 0 0, .bool true]) ∧ Below w.heap.size w w' := by
  have hlb := block_of_cell hl
  have hmo : Tryz.prog.follows .mixedOrders = true := by kernel_rfl
  refine (callsIn_wide (n := 9)).1 ?_
  refine callsIn_of_wp_marks Tryz.func166 rfl trivial ?_ rfl
  simp only [Tryz.ntmps166, List.size_toArray, List.length_cons, List.length_nil, Nat.reduceAdd, Nat.reduceSub, Array.replicate_succ, Array.replicate_zero, List.push_toArray, List.append_toArray, List.nil_append, List.cons_append]
  gi_wp2_with (refine ⟨trivial, ?_⟩; gi_at_call 175; refine (callsIn_wide.2 (path_c _ _ _ _ _ _ _ _ _ _)).mono ?_; rintro e w1 ⟨rfl, rfl⟩)
  have hB : Below w.heap.size w ((((((((w.alloc (.cells #[.slice ta tn tc] 34)).alloc (.cells #[.int .i64 0, .slice sa 0 sc] 76)).alloc (.cells #[.slice none 0 0] 34)).alloc (.cells #[.bool false] 4)).alloc (.cells #[.slice none 0 0] 34)).alloc (.cells #[.slice ta tn tc] 34)).alloc (.cells #[.slice (some ⟨lb, 0, none⟩) 1 lc] 35)).alloc (.cells #[.int .i64 0, .slice sa 0 sc] 76)) := by repeat (first | exact Below.refl _ _ | assumption | refine Below.setCell ?_ (by simp <;> omega) _ | refine Below.alloc ?_ (by simp <;> omega) _ | refine Below.drew ?_)
  obtain ⟨g0, g1, g2, g3, g4, g5, g6, g7⟩ := eight_new w (.cells #[.slice ta tn tc] 34) (.cells #[.int .i64 0, .slice sa 0 sc] 76) (.cells #[.slice none 0 0] 34) (.cells #[.bool false] 4) (.cells #[.slice none 0 0] 34) (.cells #[.slice ta tn tc] 34) (.cells #[.slice (some ⟨lb, 0, none⟩) 1 lc] 35) (.cells #[.int .i64 0, .slice sa 0 sc] 76)
  have hz : ((((((((w.alloc (.cells #[.slice ta tn tc] 34)).alloc (.cells #[.int .i64 0, .slice sa 0 sc] 76)).alloc (.cells #[.slice none 0 0] 34)).alloc (.cells #[.bool false] 4)).alloc (.cells #[.slice none 0 0] 34)).alloc (.cells #[.slice ta tn tc] 34)).alloc (.cells #[.slice (some ⟨lb, 0, none⟩) 1 lc] 35)).alloc (.cells #[.int .i64 0, .slice sa 0 sc] 76)).heap.size = w.heap.size + 8 := by simp
  generalize ((((((((w.alloc (.cells #[.slice ta tn tc] 34)).alloc (.cells #[.int .i64 0, .slice sa 0 sc] 76)).alloc (.cells #[.slice none 0 0] 34)).alloc (.cells #[.bool false] 4)).alloc (.cells #[.slice none 0 0] 34)).alloc (.cells #[.slice ta tn tc] 34)).alloc (.cells #[.slice (some ⟨lb, 0, none⟩) 1 lc] 35)).alloc (.cells #[.int .i64 0, .slice sa 0 sc] 76)) = V at hB g0 g1 g2 g3 g4 g5 g6 g7 hz ⊢
  have hlV := (hB.cell (p := ⟨lb, 1, none⟩) hlb).trans hl
  have HZ := Lib.hid hz; clear hz
  refine range_seq (by decide) (gf := 190) (lb := #[.pointer (some ⟨w.heap.size + 1 + 1 + 1 + 1 + 1 + 1 + 1, 0, none⟩), .pointer (some ⟨w.heap.size + 1 + 1 + 1 + 1 + 1 + 1, 0, none⟩), .pointer (some ⟨w.heap.size + 1 + 1 + 1 + 1 + 1, 0, none⟩)]) rfl (enters_of Tryz.func190 (by kernel_rfl) rfl)
    [encS 0 0 0] (KeepC (w.heap.size + 1 + 1 + 1 + 1)) (path1_none (w.heap.size + 1 + 1 + 1 + 1) _ _ _ sa sc lb lc V (by omega) (by rw [HZ.out]; omega) g7 g6 hlV) (fun h k => h.trans k) (fun W l o o' h hc => keepC_put W l o o' h hc) (fun W W' h => KeepC.of_below h)
    (by intro i x hx; cases i with | zero => cases hx; rfl | succ i => cases hx)
    (fun _ W => Below w.heap.size w W ∧ W.heap[w.heap.size + 1]? = some (.cells #[.int .i64 0, .slice sa 0 sc] 76 (0, 0)) ∧ W.heap[w.heap.size + 1 + 1]? = some (.cells #[.slice none 0 0] 34 (0, 0)) ∧ W.heap[w.heap.size + 1 + 1 + 1]? = some (.cells #[.bool false] 4 (0, 0)) ∧ W.heap[w.heap.size + 1 + 1 + 1 + 1]? = some (.cells #[.slice none 0 0] 34 (0, 0)))
    (fun _ W W' h hb => ⟨h.1.trans (hb.mono (by rw [HZ.out]; omega)), (hb.block _ (by rw [HZ.out]; omega)).trans h.2.1, (hb.block _ (by rw [HZ.out]; omega)).trans h.2.2.1, (hb.block _ (by rw [HZ.out]; omega)).trans h.2.2.2.1, (hb.block _ (by rw [HZ.out]; omega)).trans h.2.2.2.2⟩) ⟨hB, g1, g2, g3, g4⟩
    (fun i a' W => ∃ Bx, W.heap[Bx]? = some (.cells #[.int .i64 0, .int .i64 0] 258 (0, 0)) ∧ a' = { tmps := #[.slice ta tn tc, .slice (some ⟨lb, 0, none⟩) 1 lc, .agg #[.int .i64 0, .slice sa 0 sc], .pointer (some ⟨w.heap.size, 0, none⟩), undef, .pointer (some ⟨w.heap.size + 1, 0, none⟩), .pointer (some ⟨w.heap.size + 1 + 1, 0, none⟩), .pointer (some ⟨w.heap.size + 1 + 1 + 1, 0, none⟩), .pointer (some ⟨w.heap.size + 1 + 1 + 1 + 1, 0, none⟩), .int .i64 0, .pointer (some ⟨Bx, 0, none⟩), .slice ta tn tc, .slice (some ⟨lb, 0, none⟩) 1 lc, .agg #[.int .i64 0, .slice sa 0 sc], .func (.func 190) #[] #[.pointer (some ⟨w.heap.size + 1 + 1 + 1 + 1 + 1 + 1 + 1, 0, none⟩), .pointer (some ⟨w.heap.size + 1 + 1 + 1 + 1 + 1 + 1, 0, none⟩), .pointer (some ⟨w.heap.size + 1 + 1 + 1 + 1 + 1, 0, none⟩)], .int .i64 0, .agg #[.int .i64 0, .int .i64 0], undef, undef, undef, undef, undef, undef, undef, undef, undef, undef, undef, undef, undef, undef, undef, undef, undef, undef, undef, undef, undef, undef, undef, undef, undef, undef], defers := [] })
    (fun i a' W l r o h hl => by obtain ⟨Bx, h1, h2⟩ := h; exact ⟨Bx, blk_own h1 (grownBy_putObj' W l o) (fun r e => by cases e; exact ⟨_, hl, rfl⟩), h2⟩)
    ?assign ?body ?done
  case assign =>
    rintro l i x W K hx hW hI hK
    cases i with
    | succ i => cases hx
    | zero =>
      cases hx
      gi_wp2
      exact hK _ _ ((Below.refl _ W).alloc (Nat.le_refl _) _) ⟨W.heap.size, heap_new W _, rfl⟩
  case body =>
    rintro l i x a' W hx hW ⟨hi, h1, h2, h3, h4⟩ ⟨Bx, hBx, rfl⟩
    obtain ⟨x0, x1, xf0, xf1⟩ := cellP hBx
    obtain ⟨y0, y1, yf0, yf1⟩ := cellP h1
    gi_wp2
    exact ⟨⟨rfl, rfl⟩, fun k cs t f hk hne => hk, hi, h1, h2, h3, h4⟩
  case done =>
    rintro W hW ⟨hi, h1, h2, h3, h4⟩ hK
    obtain ⟨y2, f2⟩ := cellB h2
    obtain ⟨y3, f3⟩ := cellB h3
    obtain ⟨y4, f4⟩ := cellB h4
    gi_wp2
    have HZ2 := HZ.out
    have hon2 : Only (w.heap.size + 1 + 1) W (W.setCell ⟨w.heap.size + 1 + 1, 0, none⟩ (.slice none 0 0)) := (Only.refl _ _).set 0 _
    have hon3 : Only (w.heap.size + 1 + 1 + 1) (W.setCell ⟨w.heap.size + 1 + 1, 0, none⟩ (.slice none 0 0)) ((W.setCell ⟨w.heap.size + 1 + 1, 0, none⟩ (.slice none 0 0)).setCell ⟨w.heap.size + 1 + 1 + 1, 0, none⟩ (.bool true)) := (Only.refl _ _).set 0 _
    have b2 := (hon3.block (w.heap.size + 1 + 1) (by omega)).trans (set1 h2 (.slice none 0 0))
    have b3 := set1 ((hon2.block (w.heap.size + 1 + 1 + 1) (by omega)).trans h3) (.bool true)
    have hK' := (hon3.block V.heap.size (by omega)).trans ((hon2.block V.heap.size (by omega)).trans hK)
    have hpB := hon3.below (hon2.below hi (by omega)) (by omega)
    have d2 := (cellB (blk_own b2 (grownBy_putObj' _ V.heap.size (.deferred none)) (fun r e => by cases e; exact ⟨_, hK', rfl⟩))).1
    have d3 := (cellB (blk_own b3 (grownBy_putObj' _ V.heap.size (.deferred none)) (fun r e => by cases e; exact ⟨_, hK', rfl⟩))).1
    refine ⟨by simp, .inl ⟨_, _, rfl, run_takeDeferred hK', ?_⟩⟩
    exact ⟨.tuple #[.slice none 0 0, .bool true], by simp [results, Tryz.results166, go_sem, d2, d3], rfl, hpB.trans (below_putO _ (by omega) (lt_of_blk hK'))⟩
set_option maxRecDepth 100000 in
set_option maxHeartbeats 1000000 in
theorem containsType_none (fv : Value) (w : World) :
    Calls Tryz.prog 167 #[.slice none 0 0, fv] w fun r w' => r = .returned (.bool false) ∧ Below w.heap.size w w' := by
  go_enter Tryz.func167, Tryz.ntmps167
  go_wp2_with (go_at_call 163; refine (indexType_none none 0 fv _).mono ?_; rintro e w1 ⟨rfl, hb1⟩)
  go_ret
  exact ⟨rfl, hb1⟩
set_option maxRecDepth 100000 in
set_option maxHeartbeats 1000000 in
theorem mutable_none (ta : Option Addr) (tn tc lb lc : Nat) (sa : Option Addr) (sc : Nat) (w : World) (hl : w.cell? ⟨lb, 1, none⟩ = some (.int .i64 0)) :
    Calls Tryz.prog 141 #[.slice ta tn tc, .slice (some ⟨lb, 0, none⟩) 1 lc, .agg #[.int .i64 0, .slice sa 0 sc]] w fun r w' => r = .returned (.bool true) ∧ Below w.heap.size w w' := by
  have hlb := block_of_cell hl
  have HL := fun o => Lib.hid ((((Below.refl _ w).alloc (Nat.le_refl _) o).cell (p := ⟨lb, 1, none⟩) hlb).trans hl)
  clear hl
  go_enter Tryz.func141, Tryz.ntmps141
  go_wp2_with (first
    | (go_at_call 166; refine (refs_none ta tn tc lb lc sa sc _ (HL _).out).mono ?_; rintro e w1 ⟨rfl, hb1⟩)
    | (go_at_call 167; refine (containsType_none _ _).mono ?_; rintro e w2 ⟨rfl, hb2⟩))
  go_ret
  exact ⟨rfl, ((Below.refl _ _).alloc (Nat.le_refl _) _).trans ((hb1.trans (hb2.mono hb1.size)).mono (by simp))⟩
end Go.Proofs.YthpanohdfelkhaaGreatDoor
