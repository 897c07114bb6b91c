/- places.path at a place of local 0 (of type 0, which is int): without projection it yields one step; at dereferences it yields two, the second with ErrType. -/
import Derived.Test.YthpanohdfelkhaaGreatDoorTyp1
import Derived.Test.YthpanohdfelkhaaGreatDoorRng
import Derived.Test.YthpanohdfelkhaaGreatDoorPar6
namespace Go.Proofs.YthpanohdfelkhaaGreatDoor
open Go.RowKit Go.Shelf
attribute [local go_sem] Oper.semAt_some
abbrev encS (a b c : Int) : Array Value := #[.int .i64 a, .agg #[.int .i64 b, .int .i64 c]]
set_option maxRecDepth 100000 in
set_option maxHeartbeats 1000000 in
theorem path1_none (L Bp Bl Bt : Nat) (sa : Option Addr) (c lb lc : Nat) (w : World) (hLp : Bp ≠ L) (hLW : L < w.heap.size)
    (hBp : w.heap[Bp]? = some (.cells #[.int .i64 0, .slice sa 0 c] 76 (0, 0))) (hBl : w.heap[Bl]? = some (.cells #[.slice (some ⟨lb, 0, none⟩) 1 lc] 35 (0, 0))) (hl : w.cell? ⟨lb, 1, none⟩ = some (.int .i64 0)) :
    Yields Tryz.prog 190 #[.pointer (some ⟨Bp, 0, none⟩), .pointer (some ⟨Bl, 0, none⟩), .pointer (some ⟨Bt, 0, none⟩)] [encS 0 0 0] (KeepC L) w := by
  intro l n J W hn hbW hJ hY h0
  have hBp := (hbW.block Bp (lt_of_blk hBp)).trans hBp
  have hBl := (hbW.block Bl (lt_of_blk hBl)).trans hBl
  have hl := (hbW.cell (p := ⟨lb, 1, none⟩) (block_of_cell hl)).trans hl
  have hLW := Nat.lt_of_lt_of_le hLW hbW.size
  clear hbW
  obtain ⟨p0, p1, pf0, pf1⟩ := cellP hBp
  obtain ⟨l0, lf0⟩ := cellB hBl
  have hlb := block_of_cell hl
  have hlp := lt_of_blk hBp
  have hll := lt_of_blk hBl
  show CallsIn Fence.wide n Tryz.prog 190 #[.func (.yield l) #[] #[], .pointer (some ⟨Bp, 0, none⟩), .pointer (some ⟨Bl, 0, none⟩), .pointer (some ⟨Bt, 0, none⟩)] W _
  refine callsIn_of_wp Tryz.func190 rfl trivial ?_ rfl
  simp only [Tryz.ntmps190, List.size_toArray, List.length_cons, List.length_nil, Nat.reduceAdd, Nat.reduceSub, Array.replicate_succ, Array.replicate_zero, List.push_toArray, List.append_toArray, List.nil_append, List.cons_append]
  gi_wp2_with (refine ⟨trivial, ?_⟩; gi_at_call 125; refine (callsIn_wide.2 (plc_none _ _ _)).mono ?_; rintro e w1 ⟨rfl, hb1⟩; have q0 := (hb1.cell (p := ⟨Bp, 0, none⟩) hlp).trans p0; have q1 := (hb1.cell (p := ⟨Bp, 1, none⟩) hlp).trans p1; have r0 := (hb1.cell (p := ⟨Bl, 0, none⟩) hll).trans l0; have r1 := (hb1.cell (p := ⟨lb, 1, none⟩) hlb).trans hl; have hs1 := hb1.size)
  gi_loopw [7] (fun k wr => k = .int .i64 0 ∧ wr = w1.alloc (.cells #[.int .i64 0, .int .i64 0] 258)) (fun _ _ => 0)
  case atStart => exact ⟨rfl, rfl⟩
  case round =>
    obtain ⟨rfl, rfl⟩ := hrel
    obtain ⟨fn, tmps, assign, body, hy, hR⟩ := hY 0 _ (encS 0 0 0) (hJ _ _ _ h0 (hb1.alloc hs1 (.cells #[.int .i64 0, .int .i64 0] 258))) rfl
    dsimp only [encS] at hy
    gi_wp2
    refine hR.mono ?_
    rintro e W3 ⟨rfl, hJ3, hk3⟩
    have hk0 := (KeepC.of_below (L := L) (hb1.alloc hs1 (.cells #[.int .i64 0, .int .i64 0] 258))).trans hk3
    obtain ⟨s0, s1, sf0, sf1⟩ := cellP (hk3 _ _ _ _ (heap_new w1 _) (by omega))
    have t1 := hk0.cell p1 hLp
    gi_wp2
    go_end0
    exact ⟨⟨_, rfl⟩, hJ3⟩
set_option maxRecDepth 100000 in
set_option maxHeartbeats 1000000 in
theorem path1_some (L Bp Bl Bt g k c lb lc gt tc : Nat) (w : World) (hLp : Bp ≠ L) (hLt : Bt ≠ L) (hLg : g ≠ L) (hLT : gt ≠ L) (hLW : L < w.heap.size) (hk1 : 1 ≤ k) (hk32 : k ≤ 32)
    (hBp : w.heap[Bp]? = some (.cells #[.int .i64 0, .slice (some ⟨g, 0, none⟩) k c] 76 (0, 0))) (hBl : w.heap[Bl]? = some (.cells #[.slice (some ⟨lb, 0, none⟩) 1 lc] 35 (0, 0))) (hBt : w.heap[Bt]? = some (.cells #[.slice (some ⟨gt, 0, none⟩) 1 tc] 34 (0, 0))) (hl : w.cell? ⟨lb, 1, none⟩ = some (.int .i64 0))
    (hs : Stars w g k) (T0 : w.cell? ⟨gt, 0, none⟩ = some (.int .i64 2)) (T1 : w.cell? ⟨gt, 1, none⟩ = some (.bool false)) (T2 : w.cell? ⟨gt, 2, none⟩ = some (.int .i64 0)) (T3 : w.cell? ⟨gt, 3, none⟩ = some (.int .i64 0)) (T4 : w.cell? ⟨gt, 4, none⟩ = some (.slice none 0 0)) :
    Yields Tryz.prog 190 #[.pointer (some ⟨Bp, 0, none⟩), .pointer (some ⟨Bl, 0, none⟩), .pointer (some ⟨Bt, 0, none⟩)] [encS 0 0 0, encS 1 0 22] (KeepC L) w := by
  intro l n J W hn hbW hJ hY h0
  have hBp := (hbW.block Bp (lt_of_blk hBp)).trans hBp
  have hBl := (hbW.block Bl (lt_of_blk hBl)).trans hBl
  have hBt := (hbW.block Bt (lt_of_blk hBt)).trans hBt
  have hl := (hbW.cell (p := ⟨lb, 1, none⟩) (block_of_cell hl)).trans hl
  have hTg := block_of_cell T0
  have T0 := (hbW.cell (p := ⟨gt, 0, none⟩) hTg).trans T0
  have T1 := (hbW.cell (p := ⟨gt, 1, none⟩) hTg).trans T1
  have T2 := (hbW.cell (p := ⟨gt, 2, none⟩) hTg).trans T2
  have T3 := (hbW.cell (p := ⟨gt, 3, none⟩) hTg).trans T3
  have T4 := (hbW.cell (p := ⟨gt, 4, none⟩) hTg).trans T4
  have hs := hs.below (block_of_cell (hs 0 hk1).1) hbW
  have hLW := Nat.lt_of_lt_of_le hLW hbW.size
  clear hbW hTg
  obtain ⟨p0, p1, pf0, pf1⟩ := cellP hBp
  obtain ⟨l0, lf0⟩ := cellB hBl
  obtain ⟨b0, bf0⟩ := cellB hBt
  have hlb := block_of_cell hl
  have hlp := lt_of_blk hBp
  have hll := lt_of_blk hBl
  have hlt := lt_of_blk hBt
  have S0 := hs 0 hk1
  have hg : g < W.heap.size := block_of_cell S0.1
  obtain ⟨S0, S1⟩ := S0
  have hT := block_of_cell T0
  have Hs := Lib.hid hs; clear hs
  have hkp : (0 : Int) < (k : Int) := by omega
  have hmo : Tryz.prog.follows .mixedOrders = true := by kernel_rfl
  show CallsIn Fence.wide n Tryz.prog 190 #[.func (.yield l) #[] #[], .pointer (some ⟨Bp, 0, none⟩), .pointer (some ⟨Bl, 0, none⟩), .pointer (some ⟨Bt, 0, none⟩)] W _
  refine callsIn_of_wp Tryz.func190 rfl trivial ?_ rfl
  simp only [Tryz.ntmps190, List.size_toArray, List.length_cons, List.length_nil, Nat.reduceAdd, Nat.reduceSub, Array.replicate_succ, Array.replicate_zero, List.push_toArray, List.append_toArray, List.nil_append, List.cons_append]
  gi_wp2_with (refine ⟨trivial, ?_⟩; gi_at_call 125; refine (callsIn_wide.2 (plc_some g k c _ hk32 hg Hs.out)).mono ?_; rintro e w1 ⟨rfl, hb1⟩; have q0 := (hb1.cell (p := ⟨Bp, 0, none⟩) hlp).trans p0; have q1 := (hb1.cell (p := ⟨Bp, 1, none⟩) hlp).trans p1; have r0 := (hb1.cell (p := ⟨Bl, 0, none⟩) hll).trans l0; have r1 := (hb1.cell (p := ⟨lb, 1, none⟩) hlb).trans hl; have hs1 := hb1.size)
  gi_loopw [7] (fun i wr => (i = .int .i64 0 ∧ wr = w1.alloc (.cells #[.int .i64 0, .int .i64 0] 258)) ∨ (i = .int .i64 1 ∧ J 1 wr ∧ wr.heap[w1.heap.size]? = some (.cells #[.int .i64 0, .int .i64 22] 258 (0, 0)))) (fun i _ => 2 - (intOf i).toNat)
  case atStart => exact .inl ⟨rfl, rfl⟩
  case round =>
    rcases hrel with ⟨rfl, rfl⟩ | ⟨rfl, hJ1, hB1⟩
    · obtain ⟨fn, tmps, assign, body, hy, hR⟩ := hY 0 _ (encS 0 0 0) (hJ _ _ _ h0 (hb1.alloc hs1 (.cells #[.int .i64 0, .int .i64 0] 258))) rfl
      dsimp only [encS] at hy
      gi_wp2
      refine hR.mono ?_
      rintro e W3 ⟨rfl, hJ3, hk3⟩
      have hk0 := (KeepC.of_below (L := L) (hb1.alloc hs1 (.cells #[.int .i64 0, .int .i64 0] 258))).trans hk3
      have hB3 := hk3 _ _ _ _ (heap_new w1 _) (by omega)
      have hz3 := lt_of_blk hB3
      obtain ⟨s0, s1, sf0, sf1⟩ := cellP hB3
      have t0 := hk0.cell p0 hLp
      have t1 := hk0.cell p1 hLp
      have t2 := hk0.cell b0 hLt
      have t3 := hk0.cell S0 hLg
      have t4 := hk0.cell S1 hLg
      have hsW : W.heap.size ≤ w1.heap.size := hs1
      clear hs1
      gi_wp2
      have D0 : Hid (W3.drew.cell? ⟨gt, 0, none⟩ = some (.int .i64 2)) := hk0.cell T0 hLT
      have D1 : Hid (W3.drew.cell? ⟨gt, 1, none⟩ = some (.bool false)) := hk0.cell T1 hLT
      have D2 : Hid (W3.drew.cell? ⟨gt, 2, none⟩ = some (.int .i64 0)) := hk0.cell T2 hLT
      have D3 : Hid (W3.drew.cell? ⟨gt, 3, none⟩ = some (.int .i64 0)) := hk0.cell T3 hLT
      have D4 : Hid (W3.drew.cell? ⟨gt, 4, none⟩ = some (.slice none 0 0)) := hk0.cell T4 hLT
      gi_region_with_o (refine ⟨trivial, ?_⟩; gi_at_call 191; refine (callsIn_wide.2 (project_int gt tc _ D0.out D1.out D2.out D3.out D4.out)).mono ?_; rintro e w4 ⟨rfl, hb4⟩; have hB4 := (hb4.block w1.heap.size hz3).trans hB3; have hs4 := hb4.size; have hs4' : W3.heap.size ≤ w4.heap.size := hs4; obtain ⟨v0, v1, vf0, vf1⟩ := cellP hB4)
      all_goals gi_wp2
      all_goals
        have hj : J 1 w4 := hJ _ _ _ hJ3 (((Below.refl _ W3).drew).trans (hb4.mono (by show W.heap.size ≤ W3.drew.heap.size; have : W3.drew.heap.size = W3.heap.size := rfl; omega)))
        have hon : Only w1.heap.size w4 ((w4.setCell ⟨w1.heap.size, 0, none⟩ (.int .i64 0)).setCell ⟨w1.heap.size, 1, none⟩ (.int .i64 22)) := ((Only.refl _ _).set 0 _).set 1 _
        exact ⟨.inr ⟨rfl, hJ _ _ _ hj (hon.below (Below.refl _ _) (by omega)), by rw [setBlk _ _ _ _ _ _ _ (setBlk _ _ _ _ _ _ _ hB4)]; rfl⟩, by simp [intOf]⟩
    · obtain ⟨fn, tmps, assign, body, hy, hR⟩ := hY 1 _ (encS 1 0 22) hJ1 rfl
      dsimp only [encS] at hy
      have hz1 := lt_of_blk hB1
      obtain ⟨s0, s1, sf0, sf1⟩ := cellP hB1
      gi_wp2
      refine hR.mono ?_
      rintro e W3 ⟨rfl, hJ3, hk3⟩
      obtain ⟨y0, y1, yf0, yf1⟩ := cellP (hk3 _ _ _ _ hB1 (by omega))
      gi_wp2
      go_end0
      exact ⟨⟨_, rfl⟩, hJ3⟩
end Go.Proofs.YthpanohdfelkhaaGreatDoor
