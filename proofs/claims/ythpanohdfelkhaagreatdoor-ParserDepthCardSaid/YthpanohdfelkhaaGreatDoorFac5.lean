/- parser.ParseFacts on the chapter's example. -/
import Derived.Test.YthpanohdfelkhaaGreatDoorFac4
namespace Go.Proofs.YthpanohdfelkhaaGreatDoor
open Go.RowKit
set_option maxRecDepth 100000 in
set_option maxHeartbeats 4000000 in
theorem parseFacts_c (s : ByteArray) (g c : Nat) (w : World) (hG : Glob w) (hs : s.size ≤ 1000000) (hlex : Lx.lex s.data.toList = .ok toksF) (hB : CellsAt w g (blkCells nilS 2)) :
    Calls Tryz.prog 14 #[bodyV ⟨#[102]⟩ none 0 0 none 0 0 (some ⟨g, 0, none⟩) 1 c, .string s] w fun e w' => e = .returned (.tuple #[.agg #[nilS, nilS, nilS, nilS, nilS], .int .i64 s.size, .int .i64 0]) ∧ Below w.heap.size w w' := by
  have hmf : ∀ (fn : Fn) (first cap : Array Value) (w : World), (Instr.makeFunc fn first cap).run Tryz.prog w = .ok (.func fn first cap) w := fun _ _ _ _ => rfl
  have Hlex := Lib.hid hlex; clear hlex
  have HB0 := fun a b => Lib.hid (hB.below (((Below.refl _ w).alloc (Nat.le_refl _) a).alloc (by simp) b))
  have HB := Lib.hid hB
  have HG := Lib.hid hG
  clear hB hG
  go_enter Tryz.func14, Tryz.ntmps14
  go_wp2_with (first
    | (go_at_call 22; refine (check_T0 g c _ (HB0 _ _).out).mono ?_; rintro e w1 ⟨rfl, hb1⟩; obtain ⟨B1, m0, m1, hz1⟩ := two_below hb1; have hz0 : w.heap.size < w1.heap.size := (by omega); obtain ⟨x0, x1, x2, x3, x4, x5, x6⟩ := box7 m0; clear hb1)
    | (go_at_call 20; refine (run_facts s toksF g c w1.heap.size _ ((HG.out.below B1.out).alloc _) hs Hlex.out (fun W p tb hG' hbW hP hp hpp => facts1_c p tb g c w1.heap.size W hG' hP hp ((hbW.block w1.heap.size (by simp)).trans (heap_new w1 _)) (by simp only [World.size_alloc] at hpp; omega))).mono ?_; rintro e w2 ⟨p, rfl, hb2⟩; have hs2 := hb2.size; simp only [World.size_alloc] at hs2; have n0 := (hb2.block w.heap.size (by simp only [World.size_alloc]; omega)).trans (older m0); have n1 := (hb2.block (w.heap.size + 1) (by simp only [World.size_alloc]; omega)).trans (older m1); have nf := (hb2.block w1.heap.size (by simp only [World.size_alloc]; omega)).trans (heap_new w1 _); obtain ⟨y0, y1, y2, y3, y4, y5, y6⟩ := box7 n0; obtain ⟨f0, f1, f2, f3, f4⟩ := box5 nf; have B2 : Hid (Below w.heap.size w w2) := (B1.out.alloc (by omega) _).trans (hb2.mono (by simp only [World.size_alloc]; omega)); have hl2 : w1.heap.size < w2.heap.size := (by omega); have hl0 : w.heap.size < w2.heap.size := (by omega); clear hb2))
  go_region_held3 (fun w' => w'.cell? ⟨w.heap.size, 0, none⟩ = some (.string ⟨#[102]⟩) ∧ w'.cell? ⟨w.heap.size, 1, none⟩ = some nilSl ∧ w'.cell? ⟨w.heap.size, 2, none⟩ = some nilSl ∧ w'.cell? ⟨w.heap.size, 3, none⟩ = some (.slice none 0 0) ∧ w'.cell? ⟨w.heap.size, 4, none⟩ = some (.slice none 0 0) ∧ w'.cell? ⟨w.heap.size, 5, none⟩ = some (.int .i64 0) ∧ w'.cell? ⟨w.heap.size, 6, none⟩ = some (.slice (some ⟨g, 0, none⟩) 1 c) ∧ w'.cell? ⟨w1.heap.size, 0, none⟩ = some nilS ∧ w'.cell? ⟨w1.heap.size, 1, none⟩ = some nilS ∧ w'.cell? ⟨w1.heap.size, 2, none⟩ = some nilS ∧ w'.cell? ⟨w1.heap.size, 3, none⟩ = some nilS ∧ w'.cell? ⟨w1.heap.size, 4, none⟩ = some nilS) (first | exact ⟨by assumption, by assumption, by assumption, by assumption, by assumption, by assumption, by assumption, by assumption, by assumption, by assumption, by assumption, by assumption⟩ | go_keep) (first
    | (go_at_call 37; refine (count_one g c _ (HB.out.below B2.out.drew)).mono ?_; rintro e w3 ⟨rfl, hb3⟩; have p0 := kept hb3 (show w2.drew.heap[w.heap.size]? = _ from n0); have p1 := kept hb3 (show w2.drew.heap[w.heap.size + 1]? = _ from n1); have pf := kept hb3 (show w2.drew.heap[w1.heap.size]? = _ from nf); obtain ⟨z0, z1, z2, z3, z4, z5, z6⟩ := box7 p0; obtain ⟨k0, k1, k2, k3, k4⟩ := box5 pf; have B3 : Hid (Below w.heap.size w w3) := B2.out.drew.trans (hb3.mono B2.out.drew.size); clear hb3)
    | (go_at_call 36; refine (fcheck_none 1 0 _).mono ?_; rintro e w4 ⟨rfl, hb4⟩; have q0 := kept hb4 p0; have q1 := kept hb4 p1; have qf := kept hb4 pf; obtain ⟨u0, u1, u2, u3, u4, u5, u6⟩ := box7 q0; obtain ⟨v0, v1, v2, v3, v4⟩ := box5 qf; obtain ⟨t0, t1, t2, t3, t4⟩ := box5 q1; have hfz := frozen_of_blk q1; have hlz := lt_of_blk q1; have hlf := lt_of_blk qf; have B4 : Hid (Below w.heap.size w w4) := B3.out.trans (hb4.mono B3.out.size); clear hb4))
  go_wp2_with fail
  have hon : Only (w.heap.size + 1) w4 _ := (((((Only.refl (w.heap.size + 1) w4).set 0 nilS).set 1 nilS).set 2 nilS).set 3 nilS).set 4 nilS
  refine bodyPost_ret (v := .tuple #[.agg #[nilS, nilS, nilS, nilS, nilS], .int .i64 s.size, .int .i64 0]) (by simp [results, Tryz.results14, go_sem, t0, t1, t2, t3, t4]) rfl ⟨rfl, hon.below B4.out (by omega)⟩
end Go.Proofs.YthpanohdfelkhaaGreatDoor
