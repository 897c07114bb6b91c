/- The parser's all on the other two examples: texts that are refused. The parser's state (PS) is given; of what lay in memory only the parser's own block changes. -/
import Derived.Test.YthpanohdfelkhaaGreatDoorPar11
namespace Go.Proofs.YthpanohdfelkhaaGreatDoor
open Go.RowKit
/-- at a call that panics in a region that draws its order: the goal is closed, and a goal that the tactic can go on from is left -/
theorem via {G : Prop} (P : Program) (a : Act) (w : World) (g : G) (_ : wpAny P .any #[] (fun _ _ _ => True) 0 #[] a w) : G := g
def toks1 : List Tok := [tBody, tF, tOpen 8, tBlk 1 10, tColon 12, tOpen 14, tRet 16, tSemi 22, tClose 24, tClose 26, tEnd 27]
def tDead (q : Int) : Tok := ⟨1, [100, 101, 97, 100], 0, q⟩
def tX (q : Int) : Tok := ⟨3, [120], 0, q⟩
def toks2 : List Tok := [tBody, tF, tOpen 8, tBlk 0 10, tColon 12, tOpen 14, tDead 16, tX 21, tSemi 23, tRet 25, tSemi 31, tClose 33, tClose 35, tEnd 36]
set_option maxRecDepth 100000 in
set_option maxHeartbeats 1000000 in
theorem all_1 (p tb : Nat) (w : World) (hG : Glob w) (h : PS w p tb toks1 bv00) (hp13 : 13 ≤ p) :
    Calls Tryz.prog 21 #[.pointer (some ⟨p, 0, none⟩)] w fun e w' => e = FailV 10 18 ∧ Fr p w w' := by
  have S0 := At.start h hG hp13
  have hp := h.plt
  have htb := h.tlt
  have hf1 := tok_f1
  go_enter Tryz.func21, Tryz.ntmps21
  go_wp2_with (first
    | (go_at_call 45; first
      | (have := S2; refine (expect_ok p tb _ _ _ _ [[123]] _ S2.gl S2.ps hp13 open_words (by decide) (one_each open_words) (by simp only [Ended]; decide) (expGo1 (by decide))).mono ?_; rintro e w3 ⟨rfl, hps, hfr⟩; have S3 := S2.step hps hfr; have c3 := S3.c)
      | (refine (expect_ok p tb _ _ _ _ [[98, 111, 100, 121]] _ S0.gl S0.ps hp13 body_words (by decide) (one_each body_words) (by simp only [toks1, Ended]; decide) (expGo1 (by decide))).mono ?_; rintro e w1 ⟨rfl, hps, hfr⟩; have S1 := S0.step hps hfr; have c1 := S1.c))
    | (go_at_call 46; refine (take_yes p tb tF _ _ 5 _ S1.ps (by decide) (by decide) (by simp)).mono ?_; rintro e w2 ⟨rfl, hps, hfr⟩; have T2 := S1.step hps hfr; have S2 := T2.step (T2.ps.set_nm vF) (fr_set p 1 vF w2); have c2 := T2.c; obtain ⟨q1, q2, q3, q4, q5, q6, q7, qz⟩ := T2.ps.bcells; have hp2 := T2.ps.plt)
    | (go_at_call 47; first
      | (have := S4; refine (maybe_out p tb _ _ _ _ [[111, 117, 116, 108, 105, 118, 101, 115]] _ S4.gl S4.ps outlives_words (by decide) (by decide)).mono ?_; rintro e w5 ⟨rfl, hb⟩; have S5 := S4.below hb; have c5 := S5.c)
      | (have := S3; refine (maybe_out p tb _ _ _ _ [[114, 101, 103, 105, 111, 110, 115]] _ S3.gl S3.ps regions_words (by decide) (by decide)).mono ?_; rintro e w4 ⟨rfl, hb⟩; have S4 := S3.below hb; have c4 := S4.c)))
  clear S0 S1 S2 S3 S4 T2 c1 c2 c3 c4 q1 q2 q3 q4 q5 q6 q7 qz hp2
  go_loopw [36] (fun _ wr => At w p tb [tBlk 1 10, tColon 12, tOpen 14, tRet 16, tSemi 22, tClose 24, tClose 26, tEnd 27] bv01 wr) (fun _ _ => 0)
  case atStart => exact S5
  case round =>
    clear S5 c5
    have c5 := hrel.c
    go_wp2_with (first
      | (go_at_call 47; refine (maybe_out p tb _ _ _ _ [[116, 121, 112, 101]] _ hrel.gl hrel.ps type_words (by decide) (by decide)).mono ?_; rintro e w6 ⟨rfl, hb⟩; have S6 := hrel.below hb; have c6 := S6.c)
      | (go_at_call 55; first
        | (have := S8; refine (locals_none p tb _ _ _ _ [108, 101, 116] _ S8.gl S8.ps let_words (by decide)).mono ?_; rintro e w9 ⟨rfl, hb⟩; have S9 := S8.below hb; have c9 := S9.c)
        | (have := S6; refine (locals_none p tb _ _ _ _ [97, 114, 103] _ S6.gl S6.ps arg_words (by decide)).mono ?_; rintro e w7 ⟨rfl, hb⟩; have S7 := S6.below hb; have c7 := S7.c; have S8 := S7.step (S7.ps.set_ar (.int .i64 0)) (fr_set p 6 (.int .i64 0) w7); obtain ⟨q1, q2, q3, q4, q5, q6, q7, qz⟩ := S7.ps.bcells; have hp7 := S7.ps.plt)))
    clear S6 S7 S8 c5 c6 c7 q1 q2 q3 q4 q5 q6 q7 qz hp7
    go_loopw [72] (fun _ wr => At w p tb [tBlk 1 10, tColon 12, tOpen 14, tRet 16, tSemi 22, tClose 24, tClose 26, tEnd 27] bv01 wr) (fun _ _ => 0)
    case atStart => exact S9
    case round =>
      clear S9 c9
      have c9 := hrel.c
      go_wp2_with (first
        | (go_at_call 47; refine (maybe_out p tb _ _ _ _ [[125]] _ hrel.gl hrel.ps close_words (by decide) (by decide)).mono ?_; rintro e w10 ⟨rfl, hb⟩; have S10 := hrel.below hb; have c10 := S10.c; obtain ⟨q1, q2, q3, q4, q5, q6, q7, qz⟩ := S10.ps.bcells; have hp10 := S10.ps.plt))
      go_region_with (go_at_call 53; refine (numbered_no p tb (tBlk 1 10) _ _ 7 0 _ (by first | exact S10.drew.ps | exact S10.ps) (by decide) (by decide)).mono ?_; rintro e w11 ⟨rfl, hfr⟩; refine via Tryz.prog ⟨#[], []⟩ w ⟨rfl, rfl, by first | exact S10.drew.fr.trans hfr | exact S10.fr.trans hfr⟩ ?_)
      all_goals trivial
set_option maxRecDepth 100000 in
set_option maxHeartbeats 1000000 in
theorem all_2 (p tb : Nat) (w : World) (hG : Glob w) (h : PS w p tb toks2 bv00) (hp13 : 13 ≤ p) :
    Calls Tryz.prog 21 #[.pointer (some ⟨p, 0, none⟩)] w fun e w' => e = FailV 21 20 ∧ Fr p w w' := by
  have S0 := At.start h hG hp13
  have hp := h.plt
  have htb := h.tlt
  have hf1 := tok_f1
  go_enter Tryz.func21, Tryz.ntmps21
  go_wp2_with (first
    | (go_at_call 45; first
      | (have := S2; refine (expect_ok p tb _ _ _ _ [[123]] _ S2.gl S2.ps hp13 open_words (by decide) (one_each open_words) (by simp only [Ended]; decide) (expGo1 (by decide))).mono ?_; rintro e w3 ⟨rfl, hps, hfr⟩; have S3 := S2.step hps hfr; have c3 := S3.c)
      | (refine (expect_ok p tb _ _ _ _ [[98, 111, 100, 121]] _ S0.gl S0.ps hp13 body_words (by decide) (one_each body_words) (by simp only [toks2, Ended]; decide) (expGo1 (by decide))).mono ?_; rintro e w1 ⟨rfl, hps, hfr⟩; have S1 := S0.step hps hfr; have c1 := S1.c))
    | (go_at_call 46; refine (take_yes p tb tF _ _ 5 _ S1.ps (by decide) (by decide) (by simp)).mono ?_; rintro e w2 ⟨rfl, hps, hfr⟩; have T2 := S1.step hps hfr; have S2 := T2.step (T2.ps.set_nm vF) (fr_set p 1 vF w2); have c2 := T2.c; obtain ⟨q1, q2, q3, q4, q5, q6, q7, qz⟩ := T2.ps.bcells; have hp2 := T2.ps.plt)
    | (go_at_call 47; first
      | (have := S4; refine (maybe_out p tb _ _ _ _ [[111, 117, 116, 108, 105, 118, 101, 115]] _ S4.gl S4.ps outlives_words (by decide) (by decide)).mono ?_; rintro e w5 ⟨rfl, hb⟩; have S5 := S4.below hb; have c5 := S5.c)
      | (have := S3; refine (maybe_out p tb _ _ _ _ [[114, 101, 103, 105, 111, 110, 115]] _ S3.gl S3.ps regions_words (by decide) (by decide)).mono ?_; rintro e w4 ⟨rfl, hb⟩; have S4 := S3.below hb; have c4 := S4.c)))
  clear S0 S1 S2 S3 S4 T2 c1 c2 c3 c4 q1 q2 q3 q4 q5 q6 q7 qz hp2
  go_loopw [36] (fun _ wr => At w p tb [tBlk 0 10, tColon 12, tOpen 14, tDead 16, tX 21, tSemi 23, tRet 25, tSemi 31, tClose 33, tClose 35, tEnd 36] bv01 wr) (fun _ _ => 0)
  case atStart => exact S5
  case round =>
    clear S5 c5
    have c5 := hrel.c
    go_wp2_with (first
      | (go_at_call 47; refine (maybe_out p tb _ _ _ _ [[116, 121, 112, 101]] _ hrel.gl hrel.ps type_words (by decide) (by decide)).mono ?_; rintro e w6 ⟨rfl, hb⟩; have S6 := hrel.below hb; have c6 := S6.c)
      | (go_at_call 55; first
        | (have := S8; refine (locals_none p tb _ _ _ _ [108, 101, 116] _ S8.gl S8.ps let_words (by decide)).mono ?_; rintro e w9 ⟨rfl, hb⟩; have S9 := S8.below hb; have c9 := S9.c)
        | (have := S6; refine (locals_none p tb _ _ _ _ [97, 114, 103] _ S6.gl S6.ps arg_words (by decide)).mono ?_; rintro e w7 ⟨rfl, hb⟩; have S7 := S6.below hb; have c7 := S7.c; have S8 := S7.step (S7.ps.set_ar (.int .i64 0)) (fr_set p 6 (.int .i64 0) w7); obtain ⟨q1, q2, q3, q4, q5, q6, q7, qz⟩ := S7.ps.bcells; have hp7 := S7.ps.plt)))
    clear S6 S7 S8 c5 c6 c7 q1 q2 q3 q4 q5 q6 q7 qz hp7
    go_loopw [72] (fun _ wr => At w p tb [tBlk 0 10, tColon 12, tOpen 14, tDead 16, tX 21, tSemi 23, tRet 25, tSemi 31, tClose 33, tClose 35, tEnd 36] bv01 wr) (fun _ _ => 0)
    case atStart => exact S9
    case round =>
      clear S9 c9
      have c9 := hrel.c
      go_wp2_with (first
        | (go_at_call 47; refine (maybe_out p tb _ _ _ _ [[125]] _ hrel.gl hrel.ps close_words (by decide) (by decide)).mono ?_; rintro e w10 ⟨rfl, hb⟩; have S10 := hrel.below hb; have c10 := S10.c; obtain ⟨q1, q2, q3, q4, q5, q6, q7, qz⟩ := S10.ps.bcells; have hp10 := S10.ps.plt))
      go_region_held3 (fun w' => w'.cell? ⟨w.heap.size, 0, none⟩ = some (.pointer (some ⟨p, 0, none⟩)) ∧ w'.cell? ⟨p, 7, none⟩ = some nilS) (first | exact ⟨by assumption, by assumption⟩ | go_keep) ((go_at_call 53; refine (numbered_yes p tb (tBlk 0 10) _ _ 7 0 _ S10.drew.ps (by decide) (by decide) (by decide) (by simp)).mono ?_; rintro e w11 ⟨rfl, hps, hfr⟩; have S11 := S10.drew.step hps hfr; have c11 := S11.c; have r7 := S11.ps.bcells.2.2.2.2.2.2.1))
      go_wp2_with (first
        | (go_at_call 45; refine (expect_ok p tb _ _ _ _ colonOpen _ S11.gl S11.ps hp13 colonOpen_words (by decide) colonOpen_each (by simp only [Ended]; decide) rfl).mono ?_; rintro e w12 ⟨rfl, hps, hfr⟩; have S12 := S11.step hps hfr; have c12 := S12.c; have z12 := S12.ps.bcells.2.2.2.2.2.2; have hp12 := S12.ps.plt))
      clear S10 S11 c9 c10 c11 q1 q2 q3 q4 q5 q6 q7 qz hp10 r7
      obtain ⟨z7, zz⟩ := z12
      go_region_with (go_at_call 56; refine (block_dead p tb (tDead 16) (tX 21) _ _ [] (-1) _ (by first | exact S12.drew.gl | exact S12.gl) (by first | exact S12.drew.ps | exact S12.ps) hp13 (by simp) (.inl ⟨rfl, rfl⟩) (by intro o n m; simp) (by decide) (by decide) (by decide) (by decide) rfl (by decide)).mono ?_; rintro e w13 ⟨rfl, hfr⟩; refine via Tryz.prog ⟨#[], []⟩ w ⟨rfl, rfl, by first | exact S12.drew.fr.trans hfr | exact S12.fr.trans hfr⟩ ?_)
      all_goals trivial
end Go.Proofs.YthpanohdfelkhaaGreatDoor
