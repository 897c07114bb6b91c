/- facts.Check at the empty table. -/
import Derived.Test.YthpanohdfelkhaaGreatDoorFac2
namespace Go.Proofs.YthpanohdfelkhaaGreatDoor
open Go.RowKit Go.Shelf
attribute [local go_sem] Oper.semAt_some
set_option maxRecDepth 100000 in
set_option maxHeartbeats 1000000 in
theorem checkLoans_none (a b : Int) (w : World) : Calls Tryz.prog 80 #[nilS, .int .i64 a, .int .i64 b] w fun e w' => e = .returned (.int .i64 0) ∧ Below w.heap.size w w' := by
  go_enter Tryz.func80, Tryz.ntmps80
  go_wp2_with fail
  refine wp_loop_rounds 1 ?_
  rw [rounds_succ]
  go_wp2_with fail
  go_ret
  exact ⟨rfl, Below.refl _ _⟩
set_option maxRecDepth 100000 in
set_option maxHeartbeats 1000000 in
theorem tables_c (P R : Int) (w : World) : Calls Tryz.prog 81 #[.agg #[nilS, nilS, nilS, nilS, nilS], .int .i64 P, .int .i64 R] w fun e w' => e = .returned (.func (.func 126) #[] #[.pointer (some ⟨w.heap.size, 0, none⟩), .pointer (some ⟨w.heap.size + 1, 0, none⟩), .pointer (some ⟨w.heap.size + 1 + 1, 0, none⟩)]) ∧ w' = ((w.alloc (.cells #[nilS, nilS, nilS, nilS, nilS] 49)).alloc (.cells #[.int .i64 P] 3)).alloc (.cells #[.int .i64 R] 3) := by
  have hmf : ∀ (fn : Fn) (first cap : Array Value) (w : World), (Instr.makeFunc fn first cap).run Tryz.prog w = .ok (.func fn first cap) w := fun _ _ _ _ => rfl
  go_enter Tryz.func81, Tryz.ntmps81
  go_wp2_with fail
  go_ret
  exact ⟨rfl, rfl⟩
abbrev encT (a b : Int) : Array Value := #[.agg #[nilS, .int .i64 a, .int .i64 b]]
set_option maxRecDepth 100000 in
set_option maxHeartbeats 2000000 in
theorem tables1_y (P R : Int) (L Bf Bp Br : Nat) (w : World) (hLf : Bf ≠ L) (hLp : Bp ≠ L) (hLr : Br ≠ L)
    (hBf : w.heap[Bf]? = some (.cells #[nilS, nilS, nilS, nilS, nilS] 49 (0, 0))) (hBp : w.heap[Bp]? = some (.cells #[.int .i64 P] 3 (0, 0))) (hBr : w.heap[Br]? = some (.cells #[.int .i64 R] 3 (0, 0))) :
    Yields Tryz.prog 126 #[.pointer (some ⟨Bf, 0, none⟩), .pointer (some ⟨Bp, 0, none⟩), .pointer (some ⟨Br, 0, none⟩)] [encT P P, encT 0 P, encT 0 P, encT R P] (KeepC L) w := by
  intro l n J W hn hbW hJ hY h0
  have hBf := (hbW.block Bf (lt_of_blk hBf)).trans hBf
  have hBp := (hbW.block Bp (lt_of_blk hBp)).trans hBp
  have hBr := (hbW.block Br (lt_of_blk hBr)).trans hBr
  clear hbW
  obtain ⟨f0, f1, f2, f3, f4⟩ := box5 hBf
  obtain ⟨p0, pf0⟩ := cellB hBp
  obtain ⟨r0, rf0⟩ := cellB hBr
  show CallsIn Fence.wide n Tryz.prog 126 #[.func (.yield l) #[] #[], .pointer (some ⟨Bf, 0, none⟩), .pointer (some ⟨Bp, 0, none⟩), .pointer (some ⟨Br, 0, none⟩)] W _
  refine callsIn_of_wp Tryz.func126 rfl trivial ?_ rfl
  simp only [Tryz.ntmps126, List.size_toArray, List.length_cons, List.length_nil, Nat.reduceAdd, Nat.reduceSub, Array.replicate_succ, Array.replicate_zero, List.push_toArray, List.append_toArray, List.nil_append, List.cons_append]
  obtain ⟨_, _, _, _, hy0, hR0⟩ := hY 0 _ _ h0 rfl
  dsimp only [encT] at hy0
  gi_wp2
  refine hR0.mono ?_
  rintro e W1 ⟨rfl, hJ1, hk1⟩
  obtain ⟨_, _, _, _, hy1, hR1⟩ := hY 1 _ _ hJ1 rfl
  dsimp only [encT] at hy1
  have a2 := hk1.cell f2 hLf
  have ap := hk1.cell p0 hLp
  gi_wp2
  refine hR1.mono ?_
  rintro e W2 ⟨rfl, hJ2, hk2⟩
  have hk2 := hk1.trans hk2
  obtain ⟨_, _, _, _, hy2, hR2⟩ := hY 2 _ _ hJ2 rfl
  dsimp only [encT] at hy2
  have b3 := hk2.cell f3 hLf
  have bp := hk2.cell p0 hLp
  gi_wp2
  refine hR2.mono ?_
  rintro e W3 ⟨rfl, hJ3, hk3⟩
  have hk3 := hk2.trans hk3
  obtain ⟨_, _, _, _, hy3, hR3⟩ := hY 3 _ _ hJ3 rfl
  dsimp only [encT] at hy3
  have c4 := hk3.cell f4 hLf
  have cp := hk3.cell p0 hLp
  have cr := hk3.cell r0 hLr
  gi_wp2
  refine hR3.mono ?_
  rintro e W4 ⟨rfl, hJ4, hk4⟩
  gi_wp2
  go_end0
  exact ⟨⟨_, rfl⟩, hJ4⟩
end Go.Proofs.YthpanohdfelkhaaGreatDoor
