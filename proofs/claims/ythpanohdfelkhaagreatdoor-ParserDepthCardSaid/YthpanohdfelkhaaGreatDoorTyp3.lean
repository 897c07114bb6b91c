/- places.TypeOf at a place of local 0 (of type 0, which is int): type 0 without projection, ErrType at dereferences. -/
import Derived.Test.YthpanohdfelkhaaGreatDoorTyp2
namespace Go.Proofs.YthpanohdfelkhaaGreatDoor
open Go.RowKit Go.Shelf
attribute [local go_sem] Oper.semAt_some
theorem older {w : World} {k : Nat} {o ob : Obj} (h : w.heap[k]? = some ob) : (w.alloc o).heap[k]? = some ob := (Below.heap_alloc _ _ _ (lt_of_blk h)).trans h
theorem five_new (w : World) (a b c d e : Obj) : (((((w.alloc a).alloc b).alloc c).alloc d).alloc e).heap[w.heap.size]? = some a ∧ (((((w.alloc a).alloc b).alloc c).alloc d).alloc e).heap[w.heap.size + 1]? = some b ∧ (((((w.alloc a).alloc b).alloc c).alloc d).alloc e).heap[w.heap.size + 1 + 1]? = some c ∧ (((((w.alloc a).alloc b).alloc c).alloc d).alloc e).heap[w.heap.size + 1 + 1 + 1]? = some d ∧ (((((w.alloc a).alloc b).alloc c).alloc d).alloc e).heap[w.heap.size + 1 + 1 + 1 + 1]? = some e := by
  have h1 := heap_new (w.alloc a) b
  have h2 := heap_new ((w.alloc a).alloc b) c
  have h3 := heap_new (((w.alloc a).alloc b).alloc c) d
  have h4 := heap_new ((((w.alloc a).alloc b).alloc c).alloc d) e
  simp only [World.size_alloc] at h1 h2 h3 h4
  exact ⟨older (older (older (older (heap_new w a)))), older (older (older h1)), older (older h2), older h3, h4⟩
set_option maxHeartbeats 1000000 in
theorem path_c (w : World) (ta : Option Addr) (tn tc : Nat) (la : Option Addr) (ln lc : Nat) (sa : Option Addr) (sn sc : Nat) :
    Calls Tryz.prog 175 #[.slice ta tn tc, .slice la ln lc, .agg #[.int .i64 0, .slice sa sn sc]] w fun e w' => e = .returned (.func (.func 190) #[] #[.pointer (some ⟨w.heap.size + 1 + 1, 0, none⟩), .pointer (some ⟨w.heap.size + 1, 0, none⟩), .pointer (some ⟨w.heap.size, 0, none⟩)]) ∧ w' = ((w.alloc (.cells #[.slice ta tn tc] 34)).alloc (.cells #[.slice la ln lc] 35)).alloc (.cells #[.int .i64 0, .slice sa sn sc] 76) := by
  have hmf : ∀ (fn : Fn) (first cap : Array Value) (w : World), (Instr.makeFunc fn first cap).run Tryz.prog w = .ok (.func fn first cap) w := fun _ _ _ _ => rfl
  go_enter Tryz.func175, Tryz.ntmps175
  go_wp2_with fail
  go_ret
  exact ⟨rfl, rfl⟩
set_option maxRecDepth 100000 in
set_option maxHeartbeats 2000000 in
theorem typeOf_none (ta : Option Addr) (tn tc lb lc : Nat) (sa : Option Addr) (sc : Nat) (w : World) (hl : w.cell? ⟨lb, 1, none⟩ = some (.int .i64 0)) :
    Calls Tryz.prog 148 #[.slice ta tn tc, .slice (some ⟨lb, 0, none⟩) 1 lc, .agg #[.int .i64 0, .slice sa 0 sc]] w fun e w' => e = .returned (.tuple #[.int .i64 0, .int .i64 0]) ∧ Below w.heap.size w w' := by
  have hlb := block_of_cell hl
  have hmo : Tryz.prog.follows .mixedOrders = true := by kernel_rfl
  refine (callsIn_wide (n := 9)).1 ?_
  refine callsIn_of_wp_marks Tryz.func148 rfl trivial ?_ rfl
  simp only [Tryz.ntmps148, List.size_toArray, List.length_cons, List.length_nil, Nat.reduceAdd, Nat.reduceSub, Array.replicate_succ, Array.replicate_zero, List.push_toArray, List.append_toArray, List.nil_append, List.cons_append]
  gi_wp2_with (refine ⟨trivial, ?_⟩; gi_at_call 175; refine (callsIn_wide.2 (path_c _ _ _ _ _ _ _ _ _ _)).mono ?_; rintro e w1 ⟨rfl, rfl⟩)
  have hB : Below w.heap.size w (((((w.alloc (.cells #[.int .i64 0, .slice sa 0 sc] 76)).alloc (.cells #[.int .i64 0, .int .i64 0] 258)).alloc (.cells #[.slice ta tn tc] 34)).alloc (.cells #[.slice (some ⟨lb, 0, none⟩) 1 lc] 35)).alloc (.cells #[.int .i64 0, .slice sa 0 sc] 76)) := by repeat (first | exact Below.refl _ _ | assumption | refine Below.setCell ?_ (by simp <;> omega) _ | refine Below.alloc ?_ (by simp <;> omega) _ | refine Below.drew ?_)
  obtain ⟨g0, g1, g2, g3, g4⟩ := five_new w (.cells #[.int .i64 0, .slice sa 0 sc] 76) (.cells #[.int .i64 0, .int .i64 0] 258) (.cells #[.slice ta tn tc] 34) (.cells #[.slice (some ⟨lb, 0, none⟩) 1 lc] 35) (.cells #[.int .i64 0, .slice sa 0 sc] 76)
  have hz : (((((w.alloc (.cells #[.int .i64 0, .slice sa 0 sc] 76)).alloc (.cells #[.int .i64 0, .int .i64 0] 258)).alloc (.cells #[.slice ta tn tc] 34)).alloc (.cells #[.slice (some ⟨lb, 0, none⟩) 1 lc] 35)).alloc (.cells #[.int .i64 0, .slice sa 0 sc] 76)).heap.size = w.heap.size + 5 := by simp
  generalize (((((w.alloc (.cells #[.int .i64 0, .slice sa 0 sc] 76)).alloc (.cells #[.int .i64 0, .int .i64 0] 258)).alloc (.cells #[.slice ta tn tc] 34)).alloc (.cells #[.slice (some ⟨lb, 0, none⟩) 1 lc] 35)).alloc (.cells #[.int .i64 0, .slice sa 0 sc] 76)) = V at hB g0 g1 g2 g3 g4 hz ⊢
  have hlV := (hB.cell (p := ⟨lb, 1, none⟩) hlb).trans hl
  have HZ := Lib.hid hz; clear hz
  refine range_seq (by decide) (gf := 190) (lb := #[.pointer (some ⟨w.heap.size + 1 + 1 + 1 + 1, 0, none⟩), .pointer (some ⟨w.heap.size + 1 + 1 + 1, 0, none⟩), .pointer (some ⟨w.heap.size + 1 + 1, 0, none⟩)]) rfl (enters_of Tryz.func190 (by kernel_rfl) rfl)
    [encS 0 0 0] (KeepC (w.heap.size + 1)) (path1_none (w.heap.size + 1) _ _ _ sa sc lb lc V (by omega) (by rw [HZ.out]; omega) g4 g3 hlV) (fun h k => h.trans k) (fun W l o o' h hc => keepC_put W l o o' h hc) (fun W W' h => KeepC.of_below h)
    (by intro i x hx; cases i with | zero => cases hx; rfl | succ i => cases hx)
    (fun _ W => Below w.heap.size w W ∧ W.heap[w.heap.size + 1]? = some (.cells #[.int .i64 0, .int .i64 0] 258 (0, 0))) (fun _ W W' h hb => ⟨h.1.trans (hb.mono (by rw [HZ.out]; omega)), (hb.block _ (by rw [HZ.out]; omega)).trans h.2⟩) ⟨hB, g1⟩
    (fun i a' W => ∃ Bx, W.heap[Bx]? = some (.cells #[.int .i64 0, .int .i64 0] 258 (0, 0)) ∧ a' = { tmps := #[.slice ta tn tc, .slice (some ⟨lb, 0, none⟩) 1 lc, .agg #[.int .i64 0, .slice sa 0 sc], undef, undef, .pointer (some ⟨w.heap.size, 0, none⟩), .int .i64 0, .int .i64 0, .pointer (some ⟨w.heap.size + 1, 0, none⟩), undef, .pointer (some ⟨Bx, 0, none⟩), .slice ta tn tc, .slice (some ⟨lb, 0, none⟩) 1 lc, .agg #[.int .i64 0, .slice sa 0 sc], .func (.func 190) #[] #[.pointer (some ⟨w.heap.size + 1 + 1 + 1 + 1, 0, none⟩), .pointer (some ⟨w.heap.size + 1 + 1 + 1, 0, none⟩), .pointer (some ⟨w.heap.size + 1 + 1, 0, none⟩)], .int .i64 0, .agg #[.int .i64 0, .int .i64 0], undef, undef, undef, undef, undef], defers := [] })
    (fun i a' W l r o h hl => by obtain ⟨Bx, h1, h2⟩ := h; exact ⟨Bx, blk_own h1 (grownBy_putObj' W l o) (fun r e => by cases e; exact ⟨_, hl, rfl⟩), h2⟩)
    ?assign ?body ?done
  case assign =>
    rintro l i x W K hx hW ⟨hi, hL⟩ hK
    cases i with
    | succ i => cases hx
    | zero =>
      cases hx
      gi_wp2
      exact hK _ _ ((Below.refl _ W).alloc (Nat.le_refl _) _) ⟨W.heap.size, heap_new W _, rfl⟩
  case body =>
    rintro l i x a' W hx hW ⟨hi, hL⟩ ⟨Bx, hBx, rfl⟩
    have HZ2 := HZ.out
    obtain ⟨x0, x1, xf0, xf1⟩ := cellP hBx
    obtain ⟨y0, y1, yf0, yf1⟩ := cellP hL
    gi_wp2
    have hon : Only (w.heap.size + 1) W ((W.setCell ⟨w.heap.size + 1, 0, none⟩ (.int .i64 0)).setCell ⟨w.heap.size + 1, 1, none⟩ (.int .i64 0)) := ((Only.refl _ _).set 0 _).set 1 _
    exact ⟨⟨hon.block _ (by omega), hon.block _ (by omega)⟩, fun k cs t f hk hne => (hon.block k hne).trans hk, hon.below hi (by omega), by rw [setBlk _ _ _ _ _ _ _ (setBlk _ _ _ _ _ _ _ hL)]; rfl⟩
  case done =>
    rintro W hW ⟨hi, hL⟩ hK
    obtain ⟨y0, y1, yf0, yf1⟩ := cellP hL
    gi_wp2
    gi_region
    all_goals gi_wp2
    all_goals
      have hK' : W.drew.heap[V.heap.size]? = some (.deferred (some [])) := hK
      refine ⟨by simp, .inl ⟨_, _, rfl, run_takeDeferred hK', ?_⟩⟩
      exact ⟨.tuple #[.int .i64 0, .int .i64 0], by simp [results, Tryz.results148, go_sem], rfl, hi.drew.trans (below_putO _ (by rw [HZ.out]; omega) (lt_of_blk hK'))⟩
def errS (i : Nat) : Int := if i < 2 then 0 else 22
set_option maxRecDepth 100000 in
set_option maxHeartbeats 2000000 in
theorem typeOf_some (gt tc lb lc g k sc : Nat) (w : World) (hl : w.cell? ⟨lb, 1, none⟩ = some (.int .i64 0)) (hk1 : 1 ≤ k) (hk32 : k ≤ 32) (hs : Stars w g k) (T0 : w.cell? ⟨gt, 0, none⟩ = some (.int .i64 2)) (T1 : w.cell? ⟨gt, 1, none⟩ = some (.bool false)) (T2 : w.cell? ⟨gt, 2, none⟩ = some (.int .i64 0)) (T3 : w.cell? ⟨gt, 3, none⟩ = some (.int .i64 0)) (T4 : w.cell? ⟨gt, 4, none⟩ = some (.slice none 0 0)) :
    Calls Tryz.prog 148 #[.slice (some ⟨gt, 0, none⟩) 1 tc, .slice (some ⟨lb, 0, none⟩) 1 lc, .agg #[.int .i64 0, .slice (some ⟨g, 0, none⟩) k sc]] w fun e w' => e = .returned (.tuple #[.int .i64 0, .int .i64 22]) ∧ Below w.heap.size w w' := by
  have hlb := block_of_cell hl
  have hmo : Tryz.prog.follows .mixedOrders = true := by kernel_rfl
  refine (callsIn_wide (n := 9)).1 ?_
  refine callsIn_of_wp_marks Tryz.func148 rfl trivial ?_ rfl
  simp only [Tryz.ntmps148, List.size_toArray, List.length_cons, List.length_nil, Nat.reduceAdd, Nat.reduceSub, Array.replicate_succ, Array.replicate_zero, List.push_toArray, List.append_toArray, List.nil_append, List.cons_append]
  gi_wp2_with (refine ⟨trivial, ?_⟩; gi_at_call 175; refine (callsIn_wide.2 (path_c _ _ _ _ _ _ _ _ _ _)).mono ?_; rintro e w1 ⟨rfl, rfl⟩)
  have hB : Below w.heap.size w (((((w.alloc (.cells #[.int .i64 0, .slice (some ⟨g, 0, none⟩) k sc] 76)).alloc (.cells #[.int .i64 0, .int .i64 0] 258)).alloc (.cells #[.slice (some ⟨gt, 0, none⟩) 1 tc] 34)).alloc (.cells #[.slice (some ⟨lb, 0, none⟩) 1 lc] 35)).alloc (.cells #[.int .i64 0, .slice (some ⟨g, 0, none⟩) k sc] 76)) := by repeat (first | exact Below.refl _ _ | assumption | refine Below.setCell ?_ (by simp <;> omega) _ | refine Below.alloc ?_ (by simp <;> omega) _ | refine Below.drew ?_)
  obtain ⟨g0, g1, g2, g3, g4⟩ := five_new w (.cells #[.int .i64 0, .slice (some ⟨g, 0, none⟩) k sc] 76) (.cells #[.int .i64 0, .int .i64 0] 258) (.cells #[.slice (some ⟨gt, 0, none⟩) 1 tc] 34) (.cells #[.slice (some ⟨lb, 0, none⟩) 1 lc] 35) (.cells #[.int .i64 0, .slice (some ⟨g, 0, none⟩) k sc] 76)
  have hz : (((((w.alloc (.cells #[.int .i64 0, .slice (some ⟨g, 0, none⟩) k sc] 76)).alloc (.cells #[.int .i64 0, .int .i64 0] 258)).alloc (.cells #[.slice (some ⟨gt, 0, none⟩) 1 tc] 34)).alloc (.cells #[.slice (some ⟨lb, 0, none⟩) 1 lc] 35)).alloc (.cells #[.int .i64 0, .slice (some ⟨g, 0, none⟩) k sc] 76)).heap.size = w.heap.size + 5 := by simp
  generalize (((((w.alloc (.cells #[.int .i64 0, .slice (some ⟨g, 0, none⟩) k sc] 76)).alloc (.cells #[.int .i64 0, .int .i64 0] 258)).alloc (.cells #[.slice (some ⟨gt, 0, none⟩) 1 tc] 34)).alloc (.cells #[.slice (some ⟨lb, 0, none⟩) 1 lc] 35)).alloc (.cells #[.int .i64 0, .slice (some ⟨g, 0, none⟩) k sc] 76)) = V at hB g0 g1 g2 g3 g4 hz ⊢
  have hgs := block_of_cell (hs 0 hk1).1
  have hgt := block_of_cell T0
  have sV := hs.below hgs hB
  have U0 := (hB.cell (p := ⟨gt, 0, none⟩) hgt).trans T0
  have U1 := (hB.cell (p := ⟨gt, 1, none⟩) hgt).trans T1
  have U2 := (hB.cell (p := ⟨gt, 2, none⟩) hgt).trans T2
  have U3 := (hB.cell (p := ⟨gt, 3, none⟩) hgt).trans T3
  have U4 := (hB.cell (p := ⟨gt, 4, none⟩) hgt).trans T4
  have hlV := (hB.cell (p := ⟨lb, 1, none⟩) hlb).trans hl
  have HZ := Lib.hid hz; clear hz
  refine range_seq (by decide) (gf := 190) (lb := #[.pointer (some ⟨w.heap.size + 1 + 1 + 1 + 1, 0, none⟩), .pointer (some ⟨w.heap.size + 1 + 1 + 1, 0, none⟩), .pointer (some ⟨w.heap.size + 1 + 1, 0, none⟩)]) rfl (enters_of Tryz.func190 (by kernel_rfl) rfl)
    [encS 0 0 0, encS 1 0 22] (KeepC (w.heap.size + 1)) (path1_some (w.heap.size + 1) _ _ _ g k sc lb lc gt tc V (by omega) (by omega) (by omega) (by omega) (by rw [HZ.out]; omega) hk1 hk32 g4 g3 g2 hlV sV U0 U1 U2 U3 U4) (fun h k => h.trans k) (fun W l o o' h hc => keepC_put W l o o' h hc) (fun W W' h => KeepC.of_below h)
    (by intro i x hx; match i, hx with | 0, rfl => rfl | 1, rfl => rfl)
    (fun i W => Below w.heap.size w W ∧ W.heap[w.heap.size + 1]? = some (.cells #[.int .i64 0, .int .i64 (errS i)] 258 (0, 0))) (fun _ W W' h hb => ⟨h.1.trans (hb.mono (by rw [HZ.out]; omega)), (hb.block _ (by rw [HZ.out]; omega)).trans h.2⟩) ⟨hB, g1⟩
    (fun i a' W => ∃ Bx, W.heap[Bx]? = some (.cells #[.int .i64 0, .int .i64 (errS (i + 1))] 258 (0, 0)) ∧ a' = { tmps := #[.slice (some ⟨gt, 0, none⟩) 1 tc, .slice (some ⟨lb, 0, none⟩) 1 lc, .agg #[.int .i64 0, .slice (some ⟨g, 0, none⟩) k sc], undef, undef, .pointer (some ⟨w.heap.size, 0, none⟩), .int .i64 0, .int .i64 0, .pointer (some ⟨w.heap.size + 1, 0, none⟩), undef, .pointer (some ⟨Bx, 0, none⟩), .slice (some ⟨gt, 0, none⟩) 1 tc, .slice (some ⟨lb, 0, none⟩) 1 lc, .agg #[.int .i64 0, .slice (some ⟨g, 0, none⟩) k sc], .func (.func 190) #[] #[.pointer (some ⟨w.heap.size + 1 + 1 + 1 + 1, 0, none⟩), .pointer (some ⟨w.heap.size + 1 + 1 + 1, 0, none⟩), .pointer (some ⟨w.heap.size + 1 + 1, 0, none⟩)], .int .i64 i, .agg #[.int .i64 0, .int .i64 (errS (i + 1))], undef, undef, undef, undef, undef], defers := [] })
    (fun i a' W l r o h hl => by obtain ⟨Bx, h1, h2⟩ := h; exact ⟨Bx, blk_own h1 (grownBy_putObj' W l o) (fun r e => by cases e; exact ⟨_, hl, rfl⟩), h2⟩)
    ?assign ?body ?done
  case assign =>
    rintro l i x W K hx hW ⟨hi, hL⟩ hK
    match i, hx with
    | 0, rfl =>
      gi_wp2
      exact hK _ _ ((Below.refl _ W).alloc (Nat.le_refl _) _) ⟨W.heap.size, heap_new W _, rfl⟩
    | 1, rfl =>
      gi_wp2
      exact hK _ _ ((Below.refl _ W).alloc (Nat.le_refl _) _) ⟨W.heap.size, heap_new W _, rfl⟩
  case body =>
    rintro l i x a' W hx hW ⟨hi, hL⟩ ⟨Bx, hBx, rfl⟩
    obtain ⟨er, Her⟩ : ∃ er, Hid (errS (i + 1) = er) := ⟨_, Lib.hid rfl⟩
    rw [Her.out] at hBx ⊢
    have HZ2 := HZ.out
    obtain ⟨x0, x1, xf0, xf1⟩ := cellP hBx
    obtain ⟨y0, y1, yf0, yf1⟩ := cellP hL
    gi_wp2
    have hon : Only (w.heap.size + 1) W ((W.setCell ⟨w.heap.size + 1, 0, none⟩ (.int .i64 0)).setCell ⟨w.heap.size + 1, 1, none⟩ (.int .i64 er)) := ((Only.refl _ _).set 0 _).set 1 _
    exact ⟨⟨hon.block _ (by omega), hon.block _ (by omega)⟩, fun k cs t f hk hne => (hon.block k hne).trans hk, hon.below hi (by omega), by rw [setBlk _ _ _ _ _ _ _ (setBlk _ _ _ _ _ _ _ hL), Her.out]; rfl⟩
  case done =>
    rintro W hW ⟨hi, hL⟩ hK
    change W.heap[w.heap.size + 1]? = some (.cells #[.int .i64 0, .int .i64 22] 258 (0, 0)) at hL
    obtain ⟨y0, y1, yf0, yf1⟩ := cellP hL
    gi_wp2
    gi_region
    all_goals gi_wp2
    all_goals
      have hK' : W.drew.heap[V.heap.size]? = some (.deferred (some [])) := hK
      refine ⟨by simp, .inl ⟨_, _, rfl, run_takeDeferred hK', ?_⟩⟩
      exact ⟨.tuple #[.int .i64 0, .int .i64 22], by simp [results, Tryz.results148, go_sem], rfl, hi.drew.trans (below_putO _ (by rw [HZ.out]; omega) (lt_of_blk hK'))⟩
end Go.Proofs.YthpanohdfelkhaaGreatDoor
