/- valid.declarations and newChecker at the bodies of ParserDepth. -/
import Derived.Test.YthpanohdfelkhaaGreatDoorVal2
namespace Go.Proofs.YthpanohdfelkhaaGreatDoor
open Go.RowKit
theorem f_first : Lib.indexByte Lx.digits 102 < 0 := by decide +kernel
theorem f_trim : Lib.trimS [102] identSet.data.toList = [] := by decide +kernel
/-- a body's cells -/
abbrev bodyC (ta : Option Addr) (tn tc : Nat) (la : Option Addr) (ln lc : Nat) (ba : Option Addr) (bc : Nat) : Array Value := #[.string ⟨#[102]⟩, nilSl, nilSl, .slice ta tn tc, .slice la ln lc, .int .i64 0, .slice ba 1 bc]
theorem four_zero (w : World) : ∀ i, i < 4 → (w.alloc (.cells #[.int .i64 0, .int .i64 0, .int .i64 0, .int .i64 0] 39)).cell? ⟨w.heap.size, i, none⟩ = some (.int .i64 0) := by
  intro i hi
  rw [cell_of_blk (heap_new w _)]
  have : i = 0 ∨ i = 1 ∨ i = 2 ∨ i = 3 := by omega
  rcases this with rfl | rfl | rfl | rfl <;> rfl
theorem next7 {w w1 w2 : World} {o : Obj} (B : Hid (Below w.heap.size w w1)) (M : Hid (w1.heap[w.heap.size]? = some o)) (hb : Below w1.heap.size w1 w2) : Hid (Below w.heap.size w w2) ∧ Hid (w2.heap[w.heap.size]? = some o) :=
  ⟨B.out.trans (hb.mono B.out.size), (hb.block _ (lt_of_blk M.out)).trans M.out⟩
set_option maxRecDepth 100000 in
set_option maxHeartbeats 2000000 in
theorem decl_ok (ta : Option Addr) (tn tc : Nat) (la : Option Addr) (ln lc : Nat) (ba : Option Addr) (bc : Nat) (w : World)
    (ht : ∀ W, Below w.heap.size w W → Calls Tryz.prog 105 #[.slice ta tn tc, .int .i64 0] W fun r w' => r = .returned (.int .i64 0) ∧ Below W.heap.size W w')
    (hl : ∀ W, Below w.heap.size w W → Calls Tryz.prog 106 #[bodyV ⟨#[102]⟩ ta tn tc la ln lc ba 1 bc] W fun r w' => r = .returned (.int .i64 0) ∧ Below W.heap.size W w') :
    Calls Tryz.prog 57 #[bodyV ⟨#[102]⟩ ta tn tc la ln lc ba 1 bc] w fun r w' => r = .returned (.int .i64 0) ∧ Below w.heap.size w w' := by
  have Ht := Lib.hid ht; clear ht
  have Hl := Lib.hid hl; clear hl
  go_enter Tryz.func57, Tryz.ntmps57
  go_wp2_with (go_at_call 101; refine (ident_one 102 _ f_first f_trim).mono ?_; rintro e w1 ⟨rfl, hb1⟩; have hs1 := hb1.size; simp only [World.size_alloc] at hs1; have m0 := (hb1.block w.heap.size (by simp)).trans (heap_new w _); obtain ⟨b0, b1, b2, b3, b4, b5, b6⟩ := box7 m0; have hlt := lt_of_blk m0)
  have B1 : Hid (Below w.heap.size w w1.drew) := (((Below.refl _ _).alloc (Nat.le_refl _) _).trans (hb1.mono (by simp))).drew
  have M1 : Hid (w1.drew.heap[w.heap.size]? = some (.cells (bodyC ta tn tc la ln lc ba bc) 38 (0, 0))) := m0
  clear hb1 m0
  go_region_held3 (fun w' => w'.cell? ⟨w.heap.size, 0, none⟩ = some (.string ⟨#[102]⟩) ∧ w'.cell? ⟨w.heap.size, 1, none⟩ = some nilSl ∧ w'.cell? ⟨w.heap.size, 2, none⟩ = some nilSl ∧ w'.cell? ⟨w.heap.size, 3, none⟩ = some (.slice ta tn tc) ∧ w'.cell? ⟨w.heap.size, 4, none⟩ = some (.slice la ln lc) ∧ w'.cell? ⟨w.heap.size, 5, none⟩ = some (.int .i64 0) ∧ w'.cell? ⟨w.heap.size, 6, none⟩ = some (.slice ba 1 bc)) (first | exact ⟨by assumption, by assumption, by assumption, by assumption, by assumption, by assumption, by assumption⟩ | go_keep) (first
    | (go_at_call 103; refine (names_none _).mono ?_; rintro e w2 ⟨rfl, hb⟩; obtain ⟨B2, M2⟩ := next7 B1 M1 hb; obtain ⟨x0, x1, x2, x3, x4, x5, x6⟩ := box7 M2.out; clear hb)
    | (go_at_call 104; refine (regCheck_none _).mono ?_; rintro e w3 ⟨rfl, hb⟩; obtain ⟨B3, M3⟩ := next7 B2 M2 hb; obtain ⟨y0, y1, y2, y3, y4, y5, y6⟩ := box7 M3.out; clear hb)
    | (go_at_call 105; refine (Ht.out _ B3.out).mono ?_; rintro e w4 ⟨rfl, hb⟩; obtain ⟨B4, M4⟩ := next7 B3 M3 hb; obtain ⟨z0, z1, z2, z3, z4, z5, z6⟩ := box7 M4.out; clear hb)
    | (go_at_call 106; refine (Hl.out _ B4.out).mono ?_; rintro e w5 ⟨rfl, hb⟩; obtain ⟨B5, M5⟩ := next7 B4 M4 hb; obtain ⟨v0, v1, v2, v3, v4, v5, v6⟩ := box7 M5.out; have hl5 := lt_of_blk M5.out; clear hb)
    | (go_at_call 102; refine (first_ok w5.heap.size 4 _ (by decide) (four_zero w5) (by simp)).mono ?_; rintro e w6 ⟨rfl, hb⟩; have B5a : Hid (Below w.heap.size w (w5.alloc (.cells #[.int .i64 0, .int .i64 0, .int .i64 0, .int .i64 0] 39))) := B5.out.alloc B5.out.size _; have M5a : Hid ((w5.alloc (.cells #[.int .i64 0, .int .i64 0, .int .i64 0, .int .i64 0] 39)).heap[w.heap.size]? = some (.cells (bodyC ta tn tc la ln lc ba bc) 38 (0, 0))) := (Below.heap_alloc _ _ _ hl5).trans M5.out; obtain ⟨B6, M6⟩ := next7 B5a M5a hb; obtain ⟨u0, u1, u2, u3, u4, u5, u6⟩ := box7 M6.out; clear hb))
  all_goals go_wp2_with fail
  all_goals go_ret
  all_goals exact ⟨rfl, B6.out⟩
end Go.Proofs.YthpanohdfelkhaaGreatDoor
