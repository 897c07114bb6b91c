/- The parser's all on ParserDepth's text with more than 32 dereferences. The parser's state (PS) is given; of what lay in memory only the parser's own block changes. -/
import Derived.Test.YthpanohdfelkhaaGreatDoorPar14
namespace Go.Proofs.YthpanohdfelkhaaGreatDoor
open Go.RowKit
set_option maxRecDepth 100000 in
set_option maxHeartbeats 1000000 in
theorem all_deep (p tb k : Nat) (w : World) (hG : Glob w) (h : PS w p tb (toksS k) bv00) (hp13 : 13 ≤ p) (hk32 : 32 < k) :
    Calls Tryz.prog 21 #[.pointer (some ⟨p, 0, none⟩)] w fun e w' => e = FailV 119 19 ∧ Fr p w w' := by
  have S0 := At.start h hG hp13
  have hp := h.plt
  have htb := h.tlt
  have hf1 := tok_f1
  have hE0 : Ended (toksBl k) := ((((ended_dts k).cons').cons').cons').cons'
  have hE : ∀ (l : List Tok) (r : List Tok), l ++ toksBl k = r → Ended r := fun l r h => by subst h; induction l with | nil => exact hE0 | cons x l ih => exact ih.cons'
  go_enter Tryz.func21, Tryz.ntmps21
  go_wp2_with (first
    | (go_at_call 45; first
      | (have := S2; refine (expect_ok p tb _ _ _ _ [[123]] _ S2.gl S2.ps hp13 open_words (by decide) (one_each open_words) (hE (tOpen 8 :: headA) _ rfl) (expGo1 (by decide))).mono ?_; rintro e w3 ⟨rfl, hps, hfr⟩; have S3 := S2.step hps hfr; have c3 := S3.c)
      | (refine (expect_ok p tb _ _ _ _ [[98, 111, 100, 121]] _ S0.gl S0.ps hp13 body_words (by decide) (one_each body_words) (hE (tBody :: tF :: tOpen 8 :: headA) _ rfl) (expGo1 (by decide))).mono ?_; rintro e w1 ⟨rfl, hps, hfr⟩; have S1 := S0.step hps hfr; have c1 := S1.c))
    | (go_at_call 46; refine (take_yes p tb tF _ _ 5 _ S1.ps (by decide) (by decide) (by simp)).mono ?_; rintro e w2 ⟨rfl, hps, hfr⟩; have T2 := S1.step hps hfr; have S2 := T2.step (T2.ps.set_nm vF) (fr_set p 1 vF w2); have c2 := T2.c; obtain ⟨q1, q2, q3, q4, q5, q6, q7, qz⟩ := T2.ps.bcells; have hp2 := T2.ps.plt)
    | (go_at_call 47; first
      | (have := S4; refine (maybe_out p tb _ _ _ _ [[111, 117, 116, 108, 105, 118, 101, 115]] _ S4.gl S4.ps outlives_words (by decide) (by decide)).mono ?_; rintro e w5 ⟨rfl, hb⟩; have S5 := S4.below hb; have c5 := S5.c)
      | (have := S3; refine (maybe_out p tb _ _ _ _ [[114, 101, 103, 105, 111, 110, 115]] _ S3.gl S3.ps regions_words (by decide) (by decide)).mono ?_; rintro e w4 ⟨rfl, hb⟩; have S4 := S3.below hb; have c4 := S4.c)))
  clear S0 S1 S2 S3 S4 T2 c1 c2 c3 c4 q1 q2 q3 q4 q5 q6 q7 qz hp2
  go_loopw [36] (fun _ wr => At w p tb (toksA k) bv01 wr ∨ TyDone w p tb (toksL k) wr) (fun _ wr => tokLen p wr)
  case atStart => exact .inl S5
  case round =>
    clear S5 c5
    rcases hrel with hrel | hrel
    · have c5 := hrel.c
      go_wp2_with (first
        | (go_at_call 47; refine (maybe_in p tb (tType 10) (tTyI 0 15 :: tEq 18 :: tInt 20 :: tSemi 23 :: toksL k) _ _ [[116, 121, 112, 101]] _ hrel.gl hrel.ps type_words (by decide) (by decide) (by simp)).mono ?_; rintro e w6 ⟨rfl, hps, hfr⟩; have S6 := hrel.step hps hfr; have c6 := S6.c; obtain ⟨q1, q2, q3, q4, q5, q6, q7, qz⟩ := S6.ps.bcells; have hp6 := S6.ps.plt))
      go_region_held3 (fun w' => w'.cell? ⟨w.heap.size, 0, none⟩ = some (.pointer (some ⟨p, 0, none⟩)) ∧ w'.cell? ⟨p, 4, none⟩ = some nilS) (first | exact ⟨by assumption, by assumption⟩ | go_keep) ((go_at_call 53; refine (numbered_yes p tb (tTyI 0 15) _ _ 6 0 _ S6.drew.ps (by decide) (by decide) (by decide) (by simp)).mono ?_; rintro e w7 ⟨rfl, hps, hfr⟩; have S7 := S6.drew.step hps hfr; have c7 := S7.c; have r7 := S7.ps.bcells.2.2.2.1))
      go_wp2_with (first
        | (go_at_call 45; refine (expect_ok p tb _ _ _ _ [[61]] _ S7.gl S7.ps hp13 eq_words (by decide) (one_each eq_words) (hE ([tEq 18, tInt 20, tSemi 23] ++ headL) _ rfl) (expGo1 (by decide))).mono ?_; rintro e w8 ⟨rfl, hps, hfr⟩; have S8 := S7.step hps hfr; have c8 := S8.c; have z8 := S8.ps.bcells; have hp8 := S8.ps.plt))
      clear S6 S7 c5 c6 c7 q1 q2 q3 q4 q5 q6 q7 qz hp6 r7
      obtain ⟨_, _, _, z4, _, _, _, zz⟩ := z8
      go_region_with (go_at_call 54; refine (types_int p tb (tInt 20) _ _ _ (by first | exact S8.drew.gl | exact S8.gl) (by first | exact S8.drew.ps | exact S8.ps) hp13 (by decide) (by simp)).mono ?_; rintro e w9 ⟨rfl, hps, hfr⟩; have S9 := S8.drew.step hps hfr; have c9 := S9.c; have z9 := S9.ps.bcells.2.2.2.1; have zz9 := S9.ps.bcells.2.2.2.2.2.2.2; have hp9 := S9.ps.plt; have hb9 := lt_of_blk S9.bx)
      all_goals go_wp2_with (first
        | (go_at_call 45; refine (expect_ok p tb _ (toksL k) _ _ [[59]] _ (ty_at S9).gl (ty_at S9).ps hp13 semi1_words (by decide) (one_each semi1_words) (hE ([tSemi 23] ++ headL) _ rfl) (expGo1 (by decide))).mono ?_; rintro e w10 ⟨rfl, hps, hfr⟩; have S10 := (ty_at S9).step hps hfr; have hc10 := CellsAt.fr ty_cells hfr (by omega)))
      all_goals refine ⟨.inr ⟨_, _, S10, by omega, hc10⟩, ?_⟩
      all_goals rw [tokLen_of hrel.ps, tokLen_of S10.ps]
      all_goals simp [toksA, toksL, headL]
    · obtain ⟨gt, ct, hA, hgt, hct⟩ := hrel
      have c5 := hA.c
      go_wp2_with (first
        | (go_at_call 47; refine (maybe_out p tb (tLet 25) _ _ _ [[116, 121, 112, 101]] _ hA.gl hA.ps type_words (by decide) (by decide)).mono ?_; rintro e w6 ⟨rfl, hb6⟩; have S6 := hA.below hb6; have c6 := S6.c)
        | (go_at_call 55; first
          | (have := S8; refine (locals_one p tb (tLet 25) (tX 29) (tColon 31) (tTyI 0 33) (tSemi 35) (tBlk 0 37) (tColon 39 :: tOpen 41 :: toksBl k) _ _ _ _ _ _ _ S8.gl S8.ps hp13 (by decide) (by decide) (by decide) (by decide) (by decide) (by decide) (hE [tColon 31, tTyI 0 33, tSemi 35, tBlk 0 37, tColon 39, tOpen 41] _ rfl) (hE [tSemi 35, tBlk 0 37, tColon 39, tOpen 41] _ rfl)).mono ?_; rintro e w9 ⟨gl, cl, rfl, hgl, hps, hfr, hll⟩; have S9 := S8.step hps hfr; have c9 := S9.c; have hct9 := (((hct.below hb6).below hb7).fr (fr_set p 6 (.int .i64 0) w7) (by omega)).fr hfr (by omega))
          | (have := S6; refine (locals_none p tb (tLet 25) _ _ _ [97, 114, 103] _ S6.gl S6.ps arg_words (by decide)).mono ?_; rintro e w7 ⟨rfl, hb7⟩; have S7 := S6.below hb7; have c7 := S7.c; have S8 := S7.step (S7.ps.set_ar (.int .i64 0)) (fr_set p 6 (.int .i64 0) w7); obtain ⟨q1, q2, q3, q4, q5, q6, q7, qz⟩ := S7.ps.bcells; have hp7 := S7.ps.plt)))
      have hs8 := S8.fr.size
      have hTL : TyLc w w9 gt gl cl := ⟨hgt, hct9, by omega, hll⟩
      clear S6 S7 S8 c5 c6 c7 q1 q2 q3 q4 q5 q6 q7 qz hp7 hct9 hll
      go_loopw [72] (fun _ wr => LcDone w p tb (tBlk 0 37 :: tColon 39 :: tOpen 41 :: toksBl k) gt ct gl cl wr) (fun _ _ => 0)
      case atStart => exact ⟨S9, hTL⟩
      case round =>
        clear S9 c9 hTL
        obtain ⟨hrel, hT⟩ := hrel
        · have c9 := hrel.c
          go_wp2_with (first
            | (go_at_call 47; refine (maybe_out p tb (tBlk 0 37) _ _ _ [[125]] _ hrel.gl hrel.ps close_words (by decide) (by decide)).mono ?_; rintro e w10 ⟨rfl, hb⟩; have S10 := hrel.below hb; have hT10 := hT.fr (Fr.of_below hb) hp; have c10 := S10.c; obtain ⟨q1, q2, q3, q4, q5, q6, q7, qz⟩ := S10.ps.bcells; have hp10 := S10.ps.plt))
          go_region_held3 (fun w' => w'.cell? ⟨w.heap.size, 0, none⟩ = some (.pointer (some ⟨p, 0, none⟩)) ∧ w'.cell? ⟨p, 7, none⟩ = some nilS) (first | exact ⟨by assumption, by assumption⟩ | go_keep) ((go_at_call 53; refine (numbered_yes p tb (tBlk 0 37) _ _ 7 0 _ S10.drew.ps (by decide) (by decide) (by decide) (by simp)).mono ?_; rintro e w11 ⟨rfl, hps, hfr⟩; have S11 := S10.drew.step hps hfr; have hT11 := (hT10.fr (Fr.refl p w10).drew hp).fr hfr hp; have c11 := S11.c; have r7 := S11.ps.bcells.2.2.2.2.2.2.1))
          go_wp2_with (first
            | (go_at_call 45; refine (expect_ok p tb _ (toksBl k) _ _ colonOpen _ S11.gl S11.ps hp13 colonOpen_words (by decide) colonOpen_each (hE [tColon 39, tOpen 41] _ rfl) (by simp [expGo, colonOpen, isIdx, idxW, tColon, tOpen])).mono ?_; rintro e w12 ⟨rfl, hps, hfr⟩; have S12 := S11.step hps hfr; have hT12 := hT11.fr hfr hp; have c12 := S12.c; have z12 := S12.ps.bcells.2.2.2.2.2.2; have hp12 := S12.ps.plt))
          clear S10 S11 hT10 hT11 c9 c10 c11 q1 q2 q3 q4 q5 q6 q7 qz hp10 r7
          obtain ⟨z7, zz⟩ := z12
          have hT12d := hT12.fr (Fr.refl p w12).drew hp
          have hlne : ∀ o n m, Value.slice (some ⟨gl, 0, none⟩) 1 cl ≠ .slice (some ⟨p, o, none⟩) n m := by intro o n m e; have := hT12.l; injection e with e; injection e with e; injection e with e; omega
          go_region_with (go_at_call 56; refine (block_deep p tb k _ _ _ _ _ _ _ _ (rest2 (posK k)) _ lsX _ (by first | exact S12.drew.gl | exact S12.gl) (by first | exact S12.drew.ps | exact S12.ps) hp13 (by decide) (by first | exact hT12d.lc | exact hT12.lc) hlne (shapeK k) hk32).mono ?_; rintro e w13 ⟨rfl, hfr⟩; refine via Tryz.prog ⟨#[], []⟩ w ⟨rfl, by rw [dotPos_dts k hk32], by first | exact S12.drew.fr.trans hfr | exact S12.fr.trans hfr⟩ ?_)
          all_goals trivial
end Go.Proofs.YthpanohdfelkhaaGreatDoor
