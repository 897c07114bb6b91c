/- The parser's all on ParserDepth's text: at most 32 dereferences, and more. The parser's state (PS) is given; of what lay in memory only the parser's own block changes. -/
import Derived.Test.YthpanohdfelkhaaGreatDoorPar13
namespace Go.Proofs.YthpanohdfelkhaaGreatDoor
open Go.RowKit
theorem ty_at {w w13 : World} {p tb : Nat} {toks : List Tok} {nm rg ol lc ar bl : Value} {B A : Obj} {y : Nat} (h : At w p tb toks ⟨nm, rg, ol, nilS, lc, ar, bl⟩ w13) :
    At w p tb toks ⟨nm, rg, ol, .slice (some ⟨w13.heap.size + 1, 0, none⟩) 1 y, lc, ar, bl⟩ (((w13.setCell ⟨p, 4, none⟩ (.slice (some ⟨w13.heap.size + 1, 0, none⟩) 1 y)).alloc A).alloc B).drew :=
  h.step (grown_ps1 (h.ps.set_ty _) _ _) ((((fr_set p 4 _ w13).alloc _).alloc _).drew)
theorem ty_cells {w13 : World} {p : Nat} {cs z : Array Value} {t : TypeId} {y : Nat} {A : Obj} :
    CellsAt (((w13.setCell ⟨p, 4, none⟩ (.slice (some ⟨w13.heap.size + 1, 0, none⟩) 1 y)).alloc A).alloc (.cells (cs ++ z) t)).drew (w13.heap.size + 1) cs := by
  have hon : Only p w13 (w13.setCell ⟨p, 4, none⟩ (.slice (some ⟨w13.heap.size + 1, 0, none⟩) 1 y)) := (Only.refl _ _).set 4 _
  have hk := grown_blk (w13.setCell ⟨p, 4, none⟩ (.slice (some ⟨w13.heap.size + 1, 0, none⟩) 1 y)) A (.cells (cs ++ z) t)
  rw [hon.size] at hk
  exact CellsAt.of_blk hk
/-- behind the one type -/
def TyDone (w : World) (p tb : Nat) (toks : List Tok) (wr : World) : Prop :=
  ∃ g c, At w p tb toks ⟨vF, nilS, nilS, .slice (some ⟨g, 0, none⟩) 1 c, nilS, .int .i64 0, nilS⟩ wr ∧ w.heap.size ≤ g ∧ CellsAt wr g intCells
/-- the type and the local, in memory -/
structure TyLc (w wr : World) (gt gl cl : Nat) : Prop where
  t : w.heap.size ≤ gt
  tc : CellsAt wr gt intCells
  l : w.heap.size ≤ gl
  lc : LocSl wr (.slice (some ⟨gl, 0, none⟩) 1 cl) lsX
theorem TyLc.fr {w wr w' : World} {gt gl cl p : Nat} (h : TyLc w wr gt gl cl) (f : Fr p wr w') (hp : p < w.heap.size) : TyLc w w' gt gl cl :=
  ⟨h.t, h.tc.fr f (by have := h.t; omega), h.l, h.lc.fr f (by intro o n m e; have := h.l; injection e with e; injection e with e; injection e with e; omega)⟩
def LcDone (w : World) (p tb : Nat) (toks : List Tok) (gt ct gl cl : Nat) (wr : World) : Prop :=
  At w p tb toks ⟨vF, nilS, nilS, .slice (some ⟨gt, 0, none⟩) 1 ct, .slice (some ⟨gl, 0, none⟩) 1 cl, .int .i64 0, nilS⟩ wr ∧ TyLc w wr gt gl cl
/-- behind the one block -/
def BkDone (w : World) (p tb : Nat) (toks : List Tok) (k : Nat) (gt ct gl cl : Nat) (wr : World) : Prop :=
  ∃ g c st, At w p tb toks ⟨vF, nilS, nilS, .slice (some ⟨gt, 0, none⟩) 1 ct, .slice (some ⟨gl, 0, none⟩) 1 cl, .int .i64 0, .slice (some ⟨g, 0, none⟩) 1 c⟩ wr ∧ TyLc w wr gt gl cl ∧ w.heap.size ≤ g ∧ CellsAt wr g (blkCells st 2) ∧ StAt wr w.heap.size k st
theorem bk_done {w w13 : World} {p tb : Nat} {toks : List Tok} {k gt ct gl cl : Nat} {st : Value} {z : Array Value} {t : TypeId} {y : Nat} {A : Obj} (h : At w p tb toks ⟨vF, nilS, nilS, .slice (some ⟨gt, 0, none⟩) 1 ct, .slice (some ⟨gl, 0, none⟩) 1 cl, .int .i64 0, nilS⟩ w13) (hT : TyLc w w13 gt gl cl) (hst : StAt w13 w.heap.size k st) (hp : p < w.heap.size) :
    BkDone w p tb toks k gt ct gl cl (((w13.setCell ⟨p, 7, none⟩ (.slice (some ⟨w13.heap.size + 1, 0, none⟩) 1 y)).alloc A).alloc (.cells (blkCells st 2 ++ z) t)).drew := by
  have hf : Fr p w13 (((w13.setCell ⟨p, 7, none⟩ (.slice (some ⟨w13.heap.size + 1, 0, none⟩) 1 y)).alloc A).alloc (.cells (blkCells st 2 ++ z) t)).drew := (((fr_set p 7 _ w13).alloc _).alloc _).drew
  have hon : Only p w13 (w13.setCell ⟨p, 7, none⟩ (.slice (some ⟨w13.heap.size + 1, 0, none⟩) 1 y)) := (Only.refl _ _).set 7 _
  have hk := grown_blk (w13.setCell ⟨p, 7, none⟩ (.slice (some ⟨w13.heap.size + 1, 0, none⟩) 1 y)) A (.cells (blkCells st 2 ++ z) t)
  rw [hon.size] at hk
  have hs := h.fr.size
  exact ⟨w13.heap.size + 1, y, st, h.step (grown_ps1 (h.ps.set_bl _) _ _) hf, hT.fr hf hp, by omega, CellsAt.of_blk hk, hst.fr hf hp⟩
def headL : List Tok := [tLet 25, tX 29, tColon 31, tTyI 0 33, tSemi 35, tBlk 0 37, tColon 39, tOpen 41]
def headA : List Tok := [tType 10, tTyI 0 15, tEq 18, tInt 20, tSemi 23] ++ headL
def toksL (k : Nat) : List Tok := headL ++ toksBl k
set_option maxRecDepth 100000 in
set_option maxHeartbeats 1000000 in
theorem all_S (p tb k : Nat) (w : World) (hG : Glob w) (h : PS w p tb (toksS k) bv00) (hp13 : 13 ≤ p) (hk32 : k ≤ 32) :
    Calls Tryz.prog 21 #[.pointer (some ⟨p, 0, none⟩)] w fun e w' => e = .returned (.tuple #[]) ∧ ∃ gt ct gl cl, BkDone w p tb [tEnd (posK k + 13)] k gt ct gl cl w' := by
  have S0 := At.start h hG hp13
  have hp := h.plt
  have htb := h.tlt
  have hf1 := tok_f1
  have hE0 : Ended (toksBl k) := ((((ended_dts k).cons').cons').cons').cons'
  have hE : ∀ (l : List Tok) (r : List Tok), l ++ toksBl k = r → Ended r := fun l r h => by subst h; induction l with | nil => exact hE0 | cons x l ih => exact ih.cons'
  go_enter Tryz.func21, Tryz.ntmps21
  go_wp2_with (first
    | (go_at_call 45; first
      | (have := S2; refine (expect_ok p tb _ _ _ _ [[123]] _ S2.gl S2.ps hp13 open_words (by decide) (one_each open_words) (hE (tOpen 8 :: headA) _ rfl) (expGo1 (by decide))).mono ?_; rintro e w3 ⟨rfl, hps, hfr⟩; have S3 := S2.step hps hfr; have c3 := S3.c)
      | (refine (expect_ok p tb _ _ _ _ [[98, 111, 100, 121]] _ S0.gl S0.ps hp13 body_words (by decide) (one_each body_words) (hE (tBody :: tF :: tOpen 8 :: headA) _ rfl) (expGo1 (by decide))).mono ?_; rintro e w1 ⟨rfl, hps, hfr⟩; have S1 := S0.step hps hfr; have c1 := S1.c))
    | (go_at_call 46; refine (take_yes p tb tF _ _ 5 _ S1.ps (by decide) (by decide) (by simp)).mono ?_; rintro e w2 ⟨rfl, hps, hfr⟩; have T2 := S1.step hps hfr; have S2 := T2.step (T2.ps.set_nm vF) (fr_set p 1 vF w2); have c2 := T2.c; obtain ⟨q1, q2, q3, q4, q5, q6, q7, qz⟩ := T2.ps.bcells; have hp2 := T2.ps.plt)
    | (go_at_call 47; first
      | (have := S4; refine (maybe_out p tb _ _ _ _ [[111, 117, 116, 108, 105, 118, 101, 115]] _ S4.gl S4.ps outlives_words (by decide) (by decide)).mono ?_; rintro e w5 ⟨rfl, hb⟩; have S5 := S4.below hb; have c5 := S5.c)
      | (have := S3; refine (maybe_out p tb _ _ _ _ [[114, 101, 103, 105, 111, 110, 115]] _ S3.gl S3.ps regions_words (by decide) (by decide)).mono ?_; rintro e w4 ⟨rfl, hb⟩; have S4 := S3.below hb; have c4 := S4.c)))
  clear S0 S1 S2 S3 S4 T2 c1 c2 c3 c4 q1 q2 q3 q4 q5 q6 q7 qz hp2
  go_loopw [36] (fun _ wr => At w p tb (toksA k) bv01 wr ∨ TyDone w p tb (toksL k) wr) (fun _ wr => tokLen p wr)
  case atStart => exact .inl S5
  case round =>
    clear S5 c5
    rcases hrel with hrel | hrel
    · have c5 := hrel.c
      go_wp2_with (first
        | (go_at_call 47; refine (maybe_in p tb (tType 10) (tTyI 0 15 :: tEq 18 :: tInt 20 :: tSemi 23 :: toksL k) _ _ [[116, 121, 112, 101]] _ hrel.gl hrel.ps type_words (by decide) (by decide) (by simp)).mono ?_; rintro e w6 ⟨rfl, hps, hfr⟩; have S6 := hrel.step hps hfr; have c6 := S6.c; obtain ⟨q1, q2, q3, q4, q5, q6, q7, qz⟩ := S6.ps.bcells; have hp6 := S6.ps.plt))
      go_region_held3 (fun w' => w'.cell? ⟨w.heap.size, 0, none⟩ = some (.pointer (some ⟨p, 0, none⟩)) ∧ w'.cell? ⟨p, 4, none⟩ = some nilS) (first | exact ⟨by assumption, by assumption⟩ | go_keep) ((go_at_call 53; refine (numbered_yes p tb (tTyI 0 15) _ _ 6 0 _ S6.drew.ps (by decide) (by decide) (by decide) (by simp)).mono ?_; rintro e w7 ⟨rfl, hps, hfr⟩; have S7 := S6.drew.step hps hfr; have c7 := S7.c; have r7 := S7.ps.bcells.2.2.2.1))
      go_wp2_with (first
        | (go_at_call 45; refine (expect_ok p tb _ _ _ _ [[61]] _ S7.gl S7.ps hp13 eq_words (by decide) (one_each eq_words) (hE ([tEq 18, tInt 20, tSemi 23] ++ headL) _ rfl) (expGo1 (by decide))).mono ?_; rintro e w8 ⟨rfl, hps, hfr⟩; have S8 := S7.step hps hfr; have c8 := S8.c; have z8 := S8.ps.bcells; have hp8 := S8.ps.plt))
      clear S6 S7 c5 c6 c7 q1 q2 q3 q4 q5 q6 q7 qz hp6 r7
      obtain ⟨_, _, _, z4, _, _, _, zz⟩ := z8
      go_region_with (go_at_call 54; refine (types_int p tb (tInt 20) _ _ _ (by first | exact S8.drew.gl | exact S8.gl) (by first | exact S8.drew.ps | exact S8.ps) hp13 (by decide) (by simp)).mono ?_; rintro e w9 ⟨rfl, hps, hfr⟩; have S9 := S8.drew.step hps hfr; have c9 := S9.c; have z9 := S9.ps.bcells.2.2.2.1; have zz9 := S9.ps.bcells.2.2.2.2.2.2.2; have hp9 := S9.ps.plt; have hb9 := lt_of_blk S9.bx)
      all_goals go_wp2_with (first
        | (go_at_call 45; refine (expect_ok p tb _ (toksL k) _ _ [[59]] _ (ty_at S9).gl (ty_at S9).ps hp13 semi1_words (by decide) (one_each semi1_words) (hE ([tSemi 23] ++ headL) _ rfl) (expGo1 (by decide))).mono ?_; rintro e w10 ⟨rfl, hps, hfr⟩; have S10 := (ty_at S9).step hps hfr; have hc10 := CellsAt.fr ty_cells hfr (by omega)))
      all_goals refine ⟨.inr ⟨_, _, S10, by omega, hc10⟩, ?_⟩
      all_goals rw [tokLen_of hrel.ps, tokLen_of S10.ps]
      all_goals simp [toksA, toksL, headL]
    · obtain ⟨gt, ct, hA, hgt, hct⟩ := hrel
      have c5 := hA.c
      go_wp2_with (first
        | (go_at_call 47; refine (maybe_out p tb (tLet 25) _ _ _ [[116, 121, 112, 101]] _ hA.gl hA.ps type_words (by decide) (by decide)).mono ?_; rintro e w6 ⟨rfl, hb6⟩; have S6 := hA.below hb6; have c6 := S6.c)
        | (go_at_call 55; first
          | (have := S8; refine (locals_one p tb (tLet 25) (tX 29) (tColon 31) (tTyI 0 33) (tSemi 35) (tBlk 0 37) (tColon 39 :: tOpen 41 :: toksBl k) _ _ _ _ _ _ _ S8.gl S8.ps hp13 (by decide) (by decide) (by decide) (by decide) (by decide) (by decide) (hE [tColon 31, tTyI 0 33, tSemi 35, tBlk 0 37, tColon 39, tOpen 41] _ rfl) (hE [tSemi 35, tBlk 0 37, tColon 39, tOpen 41] _ rfl)).mono ?_; rintro e w9 ⟨gl, cl, rfl, hgl, hps, hfr, hll⟩; have S9 := S8.step hps hfr; have c9 := S9.c; have hct9 := (((hct.below hb6).below hb7).fr (fr_set p 6 (.int .i64 0) w7) (by omega)).fr hfr (by omega))
          | (have := S6; refine (locals_none p tb (tLet 25) _ _ _ [97, 114, 103] _ S6.gl S6.ps arg_words (by decide)).mono ?_; rintro e w7 ⟨rfl, hb7⟩; have S7 := S6.below hb7; have c7 := S7.c; have S8 := S7.step (S7.ps.set_ar (.int .i64 0)) (fr_set p 6 (.int .i64 0) w7); obtain ⟨q1, q2, q3, q4, q5, q6, q7, qz⟩ := S7.ps.bcells; have hp7 := S7.ps.plt)))
      have hs8 := S8.fr.size
      have hTL : TyLc w w9 gt gl cl := ⟨hgt, hct9, by omega, hll⟩
      clear S6 S7 S8 c5 c6 c7 q1 q2 q3 q4 q5 q6 q7 qz hp7 hct9 hll
      go_loopw [72] (fun _ wr => LcDone w p tb (tBlk 0 37 :: tColon 39 :: tOpen 41 :: toksBl k) gt ct gl cl wr ∨ BkDone w p tb (rest2 (posK k)) k gt ct gl cl wr) (fun _ wr => tokLen p wr)
      case atStart => exact .inl ⟨S9, hTL⟩
      case round =>
        clear S9 c9 hTL
        rcases hrel with ⟨hrel, hT⟩ | ⟨g, cc, st, hrel, hT, hg, hcs, hst⟩
        · have c9 := hrel.c
          go_wp2_with (first
            | (go_at_call 47; refine (maybe_out p tb (tBlk 0 37) _ _ _ [[125]] _ hrel.gl hrel.ps close_words (by decide) (by decide)).mono ?_; rintro e w10 ⟨rfl, hb⟩; have S10 := hrel.below hb; have hT10 := hT.fr (Fr.of_below hb) hp; have c10 := S10.c; obtain ⟨q1, q2, q3, q4, q5, q6, q7, qz⟩ := S10.ps.bcells; have hp10 := S10.ps.plt))
          go_region_held3 (fun w' => w'.cell? ⟨w.heap.size, 0, none⟩ = some (.pointer (some ⟨p, 0, none⟩)) ∧ w'.cell? ⟨p, 7, none⟩ = some nilS) (first | exact ⟨by assumption, by assumption⟩ | go_keep) ((go_at_call 53; refine (numbered_yes p tb (tBlk 0 37) _ _ 7 0 _ S10.drew.ps (by decide) (by decide) (by decide) (by simp)).mono ?_; rintro e w11 ⟨rfl, hps, hfr⟩; have S11 := S10.drew.step hps hfr; have hT11 := (hT10.fr (Fr.refl p w10).drew hp).fr hfr hp; have c11 := S11.c; have r7 := S11.ps.bcells.2.2.2.2.2.2.1))
          go_wp2_with (first
            | (go_at_call 45; refine (expect_ok p tb _ (toksBl k) _ _ colonOpen _ S11.gl S11.ps hp13 colonOpen_words (by decide) colonOpen_each (hE [tColon 39, tOpen 41] _ rfl) (by simp [expGo, colonOpen, isIdx, idxW, tColon, tOpen])).mono ?_; rintro e w12 ⟨rfl, hps, hfr⟩; have S12 := S11.step hps hfr; have hT12 := hT11.fr hfr hp; have c12 := S12.c; have z12 := S12.ps.bcells.2.2.2.2.2.2; have hp12 := S12.ps.plt))
          clear S10 S11 hT10 hT11 c9 c10 c11 q1 q2 q3 q4 q5 q6 q7 qz hp10 r7
          obtain ⟨z7, zz⟩ := z12
          have hT12d := hT12.fr (Fr.refl p w12).drew hp
          have hlne : ∀ o n m, Value.slice (some ⟨gl, 0, none⟩) 1 cl ≠ .slice (some ⟨p, o, none⟩) n m := by intro o n m e; have := hT12.l; injection e with e; injection e with e; injection e with e; omega
          go_region_with (go_at_call 56; refine (block_assign p tb k _ _ _ _ _ _ _ _ (rest2 (posK k)) _ lsX _ (by first | exact S12.drew.gl | exact S12.gl) (by first | exact S12.drew.ps | exact S12.ps) hp13 (by decide) (by first | exact hT12d.lc | exact hT12.lc) hlne (shapeK k) hk32).mono ?_; rintro e w13 ⟨st, rfl, hps, hfr, hst⟩; obtain ⟨sg, sc, rfl⟩ := hst.slice; have S13 := S12.drew.step hps hfr; have hT13 := hT12d.fr hfr hp; have c13 := S13.c; have z13 := S13.ps.bcells.2.2.2.2.2.2.1; have zz13 := S13.ps.bcells.2.2.2.2.2.2.2; have hp13' := S13.ps.plt)
          all_goals go_wp2_with fail
          all_goals refine ⟨.inr (bk_done S13 hT13 (hst.base (by have := S12.fr.size; simpa using this)) hp), ?_⟩
          all_goals rw [tokLen_of hrel.ps, tokLen_of (grown_ps1 (S13.ps.set_bl _) _ _)]
          all_goals simp [rest2, toksBl]
        · have c9 := hrel.c
          go_wp2_with (first
            | (go_at_call 47; refine (maybe_in p tb (tClose (posK k + 12)) [tEnd (posK k + 13)] _ _ [[125]] _ hrel.gl hrel.ps close_words (by decide) (by simp [isIdx, idxW, tClose]) (by simp)).mono ?_; rintro e w10 ⟨rfl, hps, hfr⟩; have S10 := hrel.step hps hfr; have hT10 := hT.fr hfr hp; have c10 := S10.c)
            | (go_at_call 46; refine (take_end p tb (tEnd (posK k + 13)) _ _ _ S10.ps (by simp [tEnd])).mono ?_; rintro e w11 ⟨rfl, hb⟩; have S11 := S10.below hb; have hT11 := hT10.fr (Fr.of_below hb) hp; have hcs' := (hcs.fr hfr (by omega)).below hb; have hst' := (hst.fr hfr hp).fr (Fr.of_below hb) hp))
          go_end0
          exact ⟨rfl, gt, ct, gl, cl, g, cc, st, S11, hT11, hg, hcs', hst'⟩
end Go.Proofs.YthpanohdfelkhaaGreatDoor
