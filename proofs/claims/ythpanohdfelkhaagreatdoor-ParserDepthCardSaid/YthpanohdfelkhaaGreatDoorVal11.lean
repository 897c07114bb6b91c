/- valid.Check at ParserDepth's bodies: a block that returns; a block with the statement 'x = copy x..'. -/
import Derived.Test.YthpanohdfelkhaaGreatDoorVal10
namespace Go.Proofs.YthpanohdfelkhaaGreatDoor
open Go.RowKit
theorem blk7 {w : World} {g : Nat} {st : Value} {k : Int} (h : CellsAt w g (blkCells st k)) : w.cell? ⟨g, 0, none⟩ = some st ∧ w.cell? ⟨g, 1, none⟩ = some (.int .i64 k) ∧ w.cell? ⟨g, 2, none⟩ = some nilS ∧ w.cell? ⟨g, 3, none⟩ = some nilS ∧ w.cell? ⟨g, 4, none⟩ = some (.int .i64 0) ∧ w.cell? ⟨g, 5, none⟩ = some nilS ∧ w.cell? ⟨g, 6, none⟩ = some (.string ⟨#[]⟩) :=
  ⟨h 0 _ rfl, h 1 _ rfl, h 2 _ rfl, h 3 _ rfl, h 4 _ rfl, h 5 _ rfl, h 6 _ rfl⟩
set_option maxRecDepth 100000 in
set_option maxHeartbeats 2000000 in
theorem check_T0 (g bc : Nat) (w : World) (hB : CellsAt w g (blkCells nilS 2)) :
    Calls Tryz.prog 22 #[bodyV ⟨#[102]⟩ none 0 0 none 0 0 (some ⟨g, 0, none⟩) 1 bc] w fun e w' => e = .returned (.int .i64 0) ∧ Below w.heap.size w w' := by
  obtain ⟨b0, b1, b2, b3, b4, b5, b6⟩ := blk7 hB
  have hg := block_of_cell b0
  have HB := Lib.hid hB
  clear hB
  go_enter Tryz.func22, Tryz.ntmps22
  go_wp2_with fail
  go_step3
  go_wp2_with (first
    | (go_at_call 57; refine (decl_ok none 0 0 none 0 0 _ bc _ (fun W _ => tcheck_none W) (fun W _ => vlocals_none _ _ _ _ _ _ _ W)).mono ?_; rintro e w1 ⟨rfl, hb1⟩; have hs1 := hb1.size; simp only [World.size_alloc] at hs1; have m0 := (hb1.block w.heap.size (by simp)).trans (heap_new w _); obtain ⟨x0, x1, x2, x3, x4, x5, x6⟩ := box7 m0; have B1 : Hid (Below w.heap.size w w1) := ((Below.refl _ _).alloc (Nat.le_refl _) _).trans (hb1.mono (by simp)); clear hb1)
    | (go_at_call 58; refine (newChecker_c none 0 0 none 0 0 _ bc _).mono ?_; rintro e w2 ⟨r, rfl, hb2⟩; have hs2 := hb2.size; have n0 := kept hb2 m0; obtain ⟨y0, y1, y2, y3, y4, y5, y6⟩ := box7 n0; have B2 : Hid (Below w.heap.size w w2) := B1.out.trans (hb2.mono B1.out.size); have H2 := HB.out.below B2.out; obtain ⟨c0, c1, c2, c3, c4, c5, c6⟩ := blk7 H2; have hlt2 := lt_of_blk n0; have hg2 := block_of_cell c0; clear hb2 H2))
  go_step3
  go_wp2_with fail
  refine wp_loop_rounds 2 ?_
  rw [rounds_succ]
  go_wp2_with fail
  refine wp_loop_rounds 1 ?_
  rw [rounds_succ]
  go_wp2_with (go_at_call 60; refine (term_ret none 0 0 none 0 0 _ bc r _).mono ?_; rintro e w3 ⟨rfl, hb3⟩; obtain ⟨B3, _, _, hz3⟩ := two_below hb3; have B4 : Hid (Below w.heap.size w w3) := B2.out.trans (B3.out.mono B2.out.size); clear hb3)
  rw [rounds_succ]
  go_wp2_with fail
  try rw [Exit.noGoto_ret]
  go_ret
  exact ⟨rfl, B4.out⟩
/-- ParserDepth's body in memory, one block with the statement 'x = copy x.*..' of k dereferences -/
structure Sx (w : World) (gt gl g a : Nat) (sa0 sa : Option Addr) (sc0 sc : Nat) (st : Nat) (k : Nat) : Prop where
  T : CellsAt w gt intCells
  l0 : w.cell? ⟨gl, 0, none⟩ = some (.string ⟨#[120]⟩)
  l1 : w.cell? ⟨gl, 1, none⟩ = some (.int .i64 0)
  B : ∃ c, CellsAt w g (blkCells (.slice (some ⟨st, 0, none⟩) 1 c) 2)
  s : CellsAt w st #[.int .i64 0, .int .i64 0, .slice sa0 0 sc0, .int .i64 0, .int .i64 0, .int .i64 0, .bool false, .int .i64 0, nilS, .slice (some ⟨a, 0, none⟩) 1 1, .int .i64 0]
  o : OpAt w a sa k sc
  p : 1 ≤ k → ∃ b, sa = some ⟨b, 0, none⟩ ∧ Stars w b k
theorem Sx.below {w w' : World} {gt gl g a : Nat} {sa0 sa : Option Addr} {sc0 sc st k : Nat} (h : Sx w gt gl g a sa0 sa sc0 sc st k) (hb : Below w.heap.size w w') : Sx w' gt gl g a sa0 sa sc0 sc st k :=
  ⟨h.T.below hb, (hb.cell (p := ⟨gl, 0, none⟩) (block_of_cell h.l0)).trans h.l0, (hb.cell (p := ⟨gl, 1, none⟩) (block_of_cell h.l1)).trans h.l1, by obtain ⟨c, hc⟩ := h.B; exact ⟨c, hc.below hb⟩, h.s.below hb, h.o.below hb, fun hk => by
    obtain ⟨b, e, hs⟩ := h.p hk; exact ⟨b, e, hs.below (block_of_cell (hs 0 hk).1) hb⟩⟩
theorem three_up (w : World) (a b c : Obj) : Below w.heap.size w (((w.alloc a).alloc b).alloc c) := (((Below.refl _ w).alloc (Nat.le_refl _) a).alloc (by simp) b).alloc (by simp only [World.size_alloc]; omega) c
theorem st11 {w : World} {b : Nat} {x0 x1 x2 x3 x4 x5 x6 x7 x8 x9 x10 : Value} (h : CellsAt w b #[x0, x1, x2, x3, x4, x5, x6, x7, x8, x9, x10]) :
    w.cell? ⟨b, 0, none⟩ = some x0 ∧ w.cell? ⟨b, 1, none⟩ = some x1 ∧ w.cell? ⟨b, 2, none⟩ = some x2 ∧ w.cell? ⟨b, 3, none⟩ = some x3 ∧ w.cell? ⟨b, 4, none⟩ = some x4 ∧ w.cell? ⟨b, 5, none⟩ = some x5 ∧ w.cell? ⟨b, 6, none⟩ = some x6 ∧ w.cell? ⟨b, 7, none⟩ = some x7 ∧ w.cell? ⟨b, 8, none⟩ = some x8 ∧ w.cell? ⟨b, 9, none⟩ = some x9 ∧ w.cell? ⟨b, 10, none⟩ = some x10 :=
  ⟨h 0 _ rfl, h 1 _ rfl, h 2 _ rfl, h 3 _ rfl, h 4 _ rfl, h 5 _ rfl, h 6 _ rfl, h 7 _ rfl, h 8 _ rfl, h 9 _ rfl, h 10 _ rfl⟩
theorem Sx.cx {w : World} {gt gl g a : Nat} {sa0 sa : Option Addr} {sc0 sc st k : Nat} (h : Sx w gt gl g a sa0 sa sc0 sc st k) : Cx w gt gl := ⟨h.T, h.l1⟩
/-- what the check comes to -/
def codeS (k : Nat) : Int := if k = 0 then 0 else 22
theorem stmt_S (gt tc gl lc : Nat) (ba : Option Addr) (bc r : Nat) (g a : Nat) (sa0 sa : Option Addr) (sc0 sc st k : Nat) (w : World) (h : Sx w gt gl g a sa0 sa sc0 sc st k) (hk32 : k ≤ 32) :
    Calls Tryz.prog 59 #[ckV gt tc gl lc ba bc r, .agg #[.int .i64 0, .int .i64 0, .slice sa0 0 sc0, .int .i64 0, .int .i64 0, .int .i64 0, .bool false, .int .i64 0, nilS, .slice (some ⟨a, 0, none⟩) 1 1, .int .i64 0]] w fun e w' => e = .returned (.int .i64 (codeS k)) ∧ Below w.heap.size w w' := by
  refine stmt_c (codeS k) gt tc gl lc ba bc r a sa0 sc0 w h.cx (fun W hW => rvalue_c (codeS k) gt tc gl lc ba bc r a W (fun W' f hW' hf => ?_))
  have hb := hW.trans (hW'.mono hW.size)
  have h' := h.below hb
  by_cases hk : k = 0
  · subst hk
    exact operands_none gt tc gl lc ba bc r sa sc a f W' h'.cx h'.o hf
  · obtain ⟨b, rfl, hs⟩ := h'.p (by omega)
    have : codeS k = 22 := by simp [codeS, hk]
    rw [this]
    exact operands_some gt tc gl lc ba bc r b k sc a f W' h'.cx (by omega) hk32 hs h'.o
set_option maxRecDepth 100000 in
set_option maxHeartbeats 4000000 in
theorem check_S (E : Int) (gt tc gl lc g bc a : Nat) (sa0 sa : Option Addr) (sc0 sc st k : Nat) (w : World) (h : Sx w gt gl g a sa0 sa sc0 sc st k) (hk32 : k ≤ 32) (hE : (E = 0 ∨ E = 22)) (hc : codeS k = E) :
    Calls Tryz.prog 22 #[bodyV ⟨#[102]⟩ (some ⟨gt, 0, none⟩) 1 tc (some ⟨gl, 0, none⟩) 1 lc (some ⟨g, 0, none⟩) 1 bc] w fun e w' => e = .returned (.int .i64 E) ∧ Below w.heap.size w w' := by
  have Hc := Lib.hid hc
  have HS := Lib.hid h
  have hgt := block_of_cell (h.T 0 _ rfl)
  have hgl := block_of_cell h.l0
  clear h hc
  rcases hE with rfl | rfl
  all_goals
    go_enter Tryz.func22, Tryz.ntmps22
    go_wp2_with fail
    go_step3
    go_wp2_with (first
      | (go_at_call 57; refine (decl_ok _ 1 tc _ 1 lc _ bc _ (fun W hW => tcheck_int gt tc W (Nat.lt_of_lt_of_le (Nat.lt_of_lt_of_le hgt (by simp)) hW.size) (HS.out.T.below (((Below.refl _ w).alloc (Nat.le_refl _) _).trans (hW.mono (by simp))))) (fun W hW => vlocals_x _ _ tc gl lc _ 1 bc W (((((Below.refl _ w).alloc (Nat.le_refl _) _).trans (hW.mono (by simp))).cell (p := ⟨gl, 0, none⟩) hgl).trans HS.out.l0) (HS.out.below (((Below.refl _ w).alloc (Nat.le_refl _) _).trans (hW.mono (by simp)))).l1 (Nat.lt_of_lt_of_le (Nat.lt_of_lt_of_le hgl (by simp)) hW.size))).mono ?_; rintro e w1 ⟨rfl, hb1⟩; have hs1 := hb1.size; simp only [World.size_alloc] at hs1; have m0 := (hb1.block w.heap.size (by simp)).trans (heap_new w _); obtain ⟨x0, x1, x2, x3, x4, x5, x6⟩ := box7 m0; have B1 : Hid (Below w.heap.size w w1) := ((Below.refl _ _).alloc (Nat.le_refl _) _).trans (hb1.mono (by simp)); clear hb1)
      | (go_at_call 58; refine (newChecker_c _ 1 tc _ 1 lc _ bc _).mono ?_; rintro e w2 ⟨r, rfl, hb2⟩; have hs2 := hb2.size; have n0 := kept hb2 m0; obtain ⟨y0, y1, y2, y3, y4, y5, y6⟩ := box7 n0; have B2 : Hid (Below w.heap.size w w2) := B1.out.trans (hb2.mono B1.out.size); have H2 := HS.out.below B2.out; obtain ⟨cc, hB2⟩ := H2.B; obtain ⟨c0, c1, c2, c3, c4, c5, c6⟩ := blk7 hB2; have hlt2 := lt_of_blk n0; have hg2 := block_of_cell c0; obtain ⟨s0, s1, s2, s3, s4, s5, s6, s7, s8, s9, s10⟩ := st11 H2.s; have hst2 := block_of_cell s0; have HS2 := Lib.hid H2; clear hb2 H2 hB2))
    go_step3
    go_wp2_with fail
    refine wp_loop_rounds 2 ?_
    rw [rounds_succ]
    go_wp2_with fail
    refine wp_loop_rounds 2 ?_
    rw [rounds_succ]
    go_wp2_with (go_at_call 59; refine (stmt_S gt tc gl lc _ bc r g a sa0 sa sc0 sc st k _ (HS2.out.below (three_up w2 _ _ _)) hk32).mono ?_; rintro e w3 ⟨he, hb3⟩; rw [Hc.out] at he; subst he; obtain ⟨B3, k0, k1, k2, hz3⟩ := three_below hb3; have B4 : Hid (Below w.heap.size w w3) := B2.out.trans (B3.out.mono B2.out.size); obtain ⟨u0, u1, u2, u3, u4, u5, u6, u7⟩ := box8 k0; obtain ⟨v0, v1, v2, v3, v4, v5, v6⟩ := box7 k1; clear hb3)
  · rw [rounds_succ]
    go_wp2_with (go_at_call 60; refine (term_ret _ 1 tc _ 1 lc _ bc r _).mono ?_; rintro e w4 ⟨rfl, hb4⟩; have B5 : Hid (Below w.heap.size w w4) := B4.out.trans (hb4.mono B4.out.size); clear hb4)
    rw [rounds_succ]
    go_wp2_with fail
    try rw [Exit.noGoto_ret]
    go_ret
    exact ⟨rfl, B5.out⟩
  · try rw [Exit.noGoto_ret]
    go_ret
    exact ⟨rfl, B4.out⟩
end Go.Proofs.YthpanohdfelkhaaGreatDoor
