/- valid's newChecker and the check of the terminator 'return'. -/
import Derived.Test.YthpanohdfelkhaaGreatDoorVal5
import Derived.Test.YthpanohdfelkhaaGreatDoorVal9
namespace Go.Proofs.YthpanohdfelkhaaGreatDoor
open Go.RowKit
abbrev ckG (ta : Option Addr) (tn tc : Nat) (la : Option Addr) (ln lc : Nat) (ba : Option Addr) (bc r : Nat) : Value := .agg #[.string ⟨#[102]⟩, nilS, nilS, .slice ta tn tc, .slice la ln lc, .int .i64 0, .slice ba 1 bc, .pointer (some ⟨r, 0, none⟩)]
theorem sets8 {w : World} {b : Nat} {x0 x1 x2 x3 x4 x5 x6 x7 : Value} {t : TypeId} (h : w.heap[b]? = some (.cells #[x0, x1, x2, x3, x4, x5, x6, x7] t (0, 0))) (y0 y1 y2 y3 y4 y5 y6 y7 : Value) :
    ((((((((w.setCell ⟨b, 0, none⟩ y0).setCell ⟨b, 1, none⟩ y1).setCell ⟨b, 2, none⟩ y2).setCell ⟨b, 3, none⟩ y3).setCell ⟨b, 4, none⟩ y4).setCell ⟨b, 5, none⟩ y5).setCell ⟨b, 6, none⟩ y6).setCell ⟨b, 7, none⟩ y7).heap[b]? = some (.cells #[y0, y1, y2, y3, y4, y5, y6, y7] t (0, 0)) := by
  rw [setBlk _ _ _ _ _ _ _ (setBlk _ _ _ _ _ _ _ (setBlk _ _ _ _ _ _ _ (setBlk _ _ _ _ _ _ _ (setBlk _ _ _ _ _ _ _ (setBlk _ _ _ _ _ _ _ (setBlk _ _ _ _ _ _ _ (setBlk _ _ _ _ _ _ _ h)))))))]; simp
set_option maxRecDepth 100000 in
set_option maxHeartbeats 1000000 in
theorem newChecker_c (ta : Option Addr) (tn tc : Nat) (la : Option Addr) (ln lc : Nat) (ba : Option Addr) (bc : Nat) (w : World) :
    Calls Tryz.prog 58 #[bodyV ⟨#[102]⟩ ta tn tc la ln lc ba 1 bc] w fun e w' => ∃ r, e = .returned (ckG ta tn tc la ln lc ba bc r) ∧ Below w.heap.size w w' := by
  go_enter Tryz.func58, Tryz.ntmps58
  go_wp2_with (go_at_call 107; refine (regNew_none _).mono ?_; rintro e w1 ⟨r, m1, m2, rfl, hb1, hr, hR⟩; obtain ⟨B1, m0, mm, hz1⟩ := two_below hb1; obtain ⟨x0, x1, x2, x3, x4, x5, x6⟩ := box7 m0; obtain ⟨y0, y1, y2, y3, y4, y5, y6, y7⟩ := box8 mm; have hf := frozen_of_blk mm; have hl := lt_of_blk mm; clear hb1)
  have hon : Only (w.heap.size + 1) w1 _ := (((((((((Only.refl (w.heap.size + 1) w1).set 0 (.string ⟨#[102]⟩)).set 1 nilS).set 2 nilS).set 3 (.slice ta tn tc)).set 4 (.slice la ln lc)).set 5 (.int .i64 0)).set 6 (.slice ba 1 bc)).set 7 (.pointer (some ⟨r, 0, none⟩)))
  obtain ⟨z0, z1, z2, z3, z4, z5, z6, z7⟩ := box8 (sets8 mm (.string ⟨#[102]⟩) nilS nilS (.slice ta tn tc) (.slice la ln lc) (.int .i64 0) (.slice ba 1 bc) (.pointer (some ⟨r, 0, none⟩)))
  refine bodyPost_ret (v := ckG ta tn tc la ln lc ba bc r) (by simp [results, Tryz.results58, go_sem, y0, y1, y2, y3, y4, y5, y6, y7]) rfl ⟨r, rfl, ?_⟩
  exact hon.below B1.out (by omega)
set_option maxRecDepth 100000 in
set_option maxHeartbeats 1000000 in
theorem counts_c (b : Nat) (w : World) (h : w.heap[b]? = some (.cells #[.int .i64 2, nilS, nilS, .int .i64 0, nilS, .string ⟨#[]⟩] 78 (0, 0))) :
    Calls Tryz.prog 145 #[.int .i64 0, .int .i64 0, .pointer (some ⟨b, 0, none⟩)] w fun e w' => e = .returned (.bool true) ∧ Below w.heap.size w w' := by
  obtain ⟨x0, x1, x2, x3, x4, x5⟩ := box6 h
  go_enter Tryz.func145, Tryz.ntmps145
  go_wp2_with fail
  go_ret
  exact ⟨rfl, Below.refl _ _⟩
abbrev retV : Value := .agg #[.int .i64 2, nilS, nilS, .int .i64 0, nilS, .string ⟨#[]⟩]
set_option maxRecDepth 100000 in
set_option maxHeartbeats 1000000 in
theorem fields_ret (w : World) : Calls Tryz.prog 111 #[retV] w fun e w' => e = .returned (.bool true) ∧ Below w.heap.size w w' := by
  have hmf : ∀ (fn : Fn) (first cap : Array Value) (w : World), (Instr.makeFunc fn first cap).run Tryz.prog w = .ok (.func fn first cap) w := fun _ _ _ _ => rfl
  go_enter Tryz.func111, Tryz.ntmps111
  go_wp2_with (first
    | (go_at_call 145; refine (counts_c w.heap.size _ (heap_new w _)).mono ?_; rintro e w1 ⟨rfl, hb1⟩; have hs1 := hb1.size; simp only [World.size_alloc] at hs1; have m0 := (hb1.block w.heap.size (by simp)).trans (heap_new w _); obtain ⟨x0, x1, x2, x3, x4, x5⟩ := box6 m0; have B1 : Hid (Below w.heap.size w w1) := ((Below.refl _ _).alloc (Nat.le_refl _) _).trans (hb1.mono (by simp)); clear hb1)
    | (go_at_call 108; refine (zero_gen none 0 _).mono ?_; rintro e w2 ⟨rfl, hb2⟩; have n0 := kept hb2 m0; have hs2 := hb2.size; obtain ⟨y0, y1, y2, y3, y4, y5⟩ := box6 n0; have B2 : Hid (Below w.heap.size w w2) := B1.out.trans (hb2.mono B1.out.size); clear hb2))
  go_ret
  exact ⟨rfl, B2.out⟩
set_option maxRecDepth 100000 in
set_option maxHeartbeats 1000000 in
theorem term_ret (ta : Option Addr) (tn tc : Nat) (la : Option Addr) (ln lc : Nat) (ba : Option Addr) (bc r : Nat) (w : World) :
    Calls Tryz.prog 60 #[ckG ta tn tc la ln lc ba bc r, retV] w fun e w' => e = .returned (.int .i64 0) ∧ Below w.heap.size w w' := by
  go_enter Tryz.func60, Tryz.ntmps60
  go_wp2_with (go_at_call 111; refine (fields_ret _).mono ?_; rintro e w1 ⟨rfl, hb1⟩; obtain ⟨B1, m0, mm, hz1⟩ := two_below hb1; obtain ⟨x0, x1, x2, x3, x4, x5⟩ := box6 mm; clear hb1)
  refine wp_loop_rounds 1 ?_
  rw [rounds_succ]
  go_wp2_with fail
  go_ret
  exact ⟨rfl, B1.out⟩
end Go.Proofs.YthpanohdfelkhaaGreatDoor
