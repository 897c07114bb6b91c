/- The parser's all on the first example: the text of a body of one block. The parser's state (PS) is given; of what lay in memory only the parser's own block changes. -/
import Derived.Test.YthpanohdfelkhaaGreatDoorPar10
namespace Go.Proofs.YthpanohdfelkhaaGreatDoor
open Go.RowKit
/-- where 'all' stands: w its first world, wr the world at hand; the box of the receiver lies behind w -/
structure At (w : World) (p tb : Nat) (toks : List Tok) (bv : BV) (wr : World) : Prop where
  ps : PS wr p tb toks bv
  fr : Fr p w wr
  bx : wr.heap[w.heap.size]? = some (.cells #[.pointer (some ⟨p, 0, none⟩)] 56 (0, 0))
  gl : Glob wr
  lp : p < w.heap.size
  lt : tb < w.heap.size
  lo : 13 ≤ p
theorem At.start {w : World} {p tb : Nat} {toks : List Tok} {bv : BV} (h : PS w p tb toks bv) (hG : Glob w) (hp : 13 ≤ p) : At w p tb toks bv (w.alloc (.cells #[.pointer (some ⟨p, 0, none⟩)] 56)) :=
  ⟨h.alloc _, (Fr.refl _ _).alloc _, heap_new _ _, hG.alloc _, h.plt, h.tlt, hp⟩
theorem At.step {w w1 w2 : World} {p tb : Nat} {toks toks2 : List Tok} {bv bv2 : BV} (h : At w p tb toks bv w1) (h2 : PS w2 p tb toks2 bv2) (f : Fr p w1 w2) : At w p tb toks2 bv2 w2 :=
  ⟨h2, h.fr.trans f, f.at h.bx (by have := h.lp; omega), h.gl.fr f h.lo, h.lp, h.lt, h.lo⟩
theorem At.below {w w1 w2 : World} {p tb : Nat} {toks : List Tok} {bv : BV} (h : At w p tb toks bv w1) (f : Below w1.heap.size w1 w2) : At w p tb toks bv w2 := h.step (h.ps.keep f) (Fr.of_below f)
theorem At.drew {w w1 : World} {p tb : Nat} {toks : List Tok} {bv : BV} (h : At w p tb toks bv w1) : At w p tb toks bv w1.drew :=
  h.step (h.ps.blocks (Nat.le_refl _) rfl rfl) (Fr.refl p w1).drew
theorem At.c {w w1 : World} {p tb : Nat} {toks : List Tok} {bv : BV} (h : At w p tb toks bv w1) : w1.cell? ⟨w.heap.size, 0, none⟩ = some (.pointer (some ⟨p, 0, none⟩)) := by rw [cell_of_blk h.bx]; rfl
theorem fr_set (p o : Nat) (v : Value) (w : World) : Fr p w (w.setCell ⟨p, o, none⟩ v) := (Fr.refl p w).setCell (.inr rfl) v
theorem body_words : Words ⟨#[98, 111, 100, 121]⟩ [[98, 111, 100, 121]] := ⟨by decide, ascii_of (by decide), by decide +kernel⟩
theorem open_words : Words ⟨#[123]⟩ [[123]] := ⟨by decide, ascii_of (by decide), by decide +kernel⟩
theorem close_words : Words ⟨#[125]⟩ [[125]] := ⟨by decide, ascii_of (by decide), by decide +kernel⟩
theorem regions_words : Words ⟨#[114, 101, 103, 105, 111, 110, 115]⟩ [[114, 101, 103, 105, 111, 110, 115]] := ⟨by decide, ascii_of (by decide), by decide +kernel⟩
theorem outlives_words : Words ⟨#[111, 117, 116, 108, 105, 118, 101, 115]⟩ [[111, 117, 116, 108, 105, 118, 101, 115]] := ⟨by decide, ascii_of (by decide), by decide +kernel⟩
theorem type_words : Words ⟨#[116, 121, 112, 101]⟩ [[116, 121, 112, 101]] := ⟨by decide, ascii_of (by decide), by decide +kernel⟩
def colonOpen : List (List UInt8) := [[58], [123]]
theorem colonOpen_words : Words ⟨#[58, 32, 123]⟩ colonOpen := ⟨by decide, ascii_of (by decide), by decide +kernel⟩
theorem colonOpen_each : ∀ x ∈ colonOpen, Words ⟨x.toArray⟩ [x] := by
  intro x hx
  simp [colonOpen] at hx
  rcases hx with rfl | rfl
  · exact colon_words
  · exact open_words
/-- cells at the head of a block -/
def CellsAt (w : World) (g : Nat) (cs : Array Value) : Prop := ∀ i u, cs[i]? = some u → w.cell? ⟨g, i, none⟩ = some u
def tBody : Tok := ⟨1, [98, 111, 100, 121], 0, 0⟩
def tF : Tok := ⟨5, [102], 0, 5⟩
def tOpen (q : Int) : Tok := ⟨8, [123], 0, q⟩
def tClose (q : Int) : Tok := ⟨8, [125], 0, q⟩
def tColon (q : Int) : Tok := ⟨8, [58], 0, q⟩
def tSemi (q : Int) : Tok := ⟨8, [59], 0, q⟩
def tBlk (n q : Int) : Tok := ⟨7, [], n, q⟩
def tRet (q : Int) : Tok := ⟨1, [114, 101, 116, 117, 114, 110], 0, q⟩
def tEnd (q : Int) : Tok := ⟨0, [], 0, q⟩
def toks0 : List Tok := [tBody, tF, tOpen 8, tBlk 0 10, tColon 12, tOpen 14, tRet 16, tSemi 22, tClose 24, tClose 26, tEnd 27]
abbrev vF : Value := .string ⟨#[102]⟩
abbrev bv00 : BV := ⟨.string ⟨#[]⟩, nilS, nilS, nilS, nilS, .int .i64 0, nilS⟩
abbrev bv01 : BV := ⟨vF, nilS, nilS, nilS, nilS, .int .i64 0, nilS⟩
/-- where 'all' stands behind the one block -/
def BlDone (w : World) (p tb : Nat) (toks : List Tok) (nm rg ol ty lc ar : Value) (cs : Array Value) (wr : World) : Prop :=
  ∃ g c, At w p tb toks ⟨nm, rg, ol, ty, lc, ar, .slice (some ⟨g, 0, none⟩) 1 c⟩ wr ∧ w.heap.size ≤ g ∧ CellsAt wr g cs
theorem grown_ps1 {w : World} {p tb : Nat} {toks : List Tok} {bv : BV} (h : PS w p tb toks bv) (A B : Obj) : PS ((w.alloc A).alloc B).drew p tb toks bv :=
  ((h.alloc A).alloc B).blocks (Nat.le_refl _) rfl rfl
theorem CellsAt.fr {w w' : World} {p g : Nat} {cs : Array Value} (h : CellsAt w g cs) (f : Fr p w w') (hp : g ≠ p) : CellsAt w' g cs := fun i u hi => (f.cell g i (block_of_cell (h i u hi)) hp).trans (h i u hi)
theorem CellsAt.below {w w' : World} {g : Nat} {cs : Array Value} (h : CellsAt w g cs) (f : Below w.heap.size w w') : CellsAt w' g cs := fun i u hi => (f.cell (p := ⟨g, i, none⟩) (block_of_cell (h i u hi))).trans (h i u hi)
theorem CellsAt.of_blk {w : World} {g : Nat} {cs z : Array Value} {t : TypeId} {f : Nat × Nat} (h : w.heap[g]? = some (.cells (cs ++ z) t f)) : CellsAt w g cs := fun i u hi => by
  rw [cell_of_blk h, Array.getElem?_append_left (Array.getElem?_eq_some_iff.1 hi).1]; exact hi
theorem bl_done {w w13 : World} {p tb : Nat} {toks : List Tok} {nm rg ol ty lc ar : Value} {cs z : Array Value} {t : TypeId} {y : Nat} {A : Obj} (h : At w p tb toks ⟨nm, rg, ol, ty, lc, ar, nilS⟩ w13) :
    BlDone w p tb toks nm rg ol ty lc ar cs (((w13.setCell ⟨p, 7, none⟩ (.slice (some ⟨w13.heap.size + 1, 0, none⟩) 1 y)).alloc A).alloc (.cells (cs ++ z) t)).drew := by
  have hon : Only p w13 (w13.setCell ⟨p, 7, none⟩ (.slice (some ⟨w13.heap.size + 1, 0, none⟩) 1 y)) := (Only.refl _ _).set 7 _
  have hk := grown_blk (w13.setCell ⟨p, 7, none⟩ (.slice (some ⟨w13.heap.size + 1, 0, none⟩) 1 y)) A (.cells (cs ++ z) t)
  rw [hon.size] at hk
  have hs := h.fr.size
  refine ⟨w13.heap.size + 1, _, h.step (grown_ps1 (h.ps.set_bl _) _ _) ?_, by omega, CellsAt.of_blk hk⟩
  exact (((fr_set p 7 _ w13).alloc _).alloc _).drew
set_option maxRecDepth 100000 in
set_option maxHeartbeats 1000000 in
theorem all_0 (p tb : Nat) (w : World) (hG : Glob w) (h : PS w p tb toks0 bv00) (hp13 : 13 ≤ p) :
    Calls Tryz.prog 21 #[.pointer (some ⟨p, 0, none⟩)] w fun e w' => ∃ g c, e = .returned (.tuple #[]) ∧ PS w' p tb [tEnd 27] ⟨vF, nilS, nilS, nilS, nilS, .int .i64 0, .slice (some ⟨g, 0, none⟩) 1 c⟩ ∧ Fr p w w' ∧ w.heap.size ≤ g ∧ CellsAt w' g (blkCells nilS 2) := by
  have S0 := At.start h hG hp13
  have hp := h.plt
  have htb := h.tlt
  have hf1 := tok_f1
  go_enter Tryz.func21, Tryz.ntmps21
  go_wp2_with (first
    | (go_at_call 45; first
      | (have := S2; refine (expect_ok p tb _ _ _ _ [[123]] _ S2.gl S2.ps hp13 open_words (by decide) (one_each open_words) (by simp only [Ended]; decide) (expGo1 (by decide))).mono ?_; rintro e w3 ⟨rfl, hps, hfr⟩; have S3 := S2.step hps hfr; have c3 := S3.c)
      | (refine (expect_ok p tb _ _ _ _ [[98, 111, 100, 121]] _ S0.gl S0.ps hp13 body_words (by decide) (one_each body_words) (by simp only [toks0, Ended]; decide) (expGo1 (by decide))).mono ?_; rintro e w1 ⟨rfl, hps, hfr⟩; have S1 := S0.step hps hfr; have c1 := S1.c))
    | (go_at_call 46; refine (take_yes p tb tF _ _ 5 _ S1.ps (by decide) (by decide) (by simp)).mono ?_; rintro e w2 ⟨rfl, hps, hfr⟩; have T2 := S1.step hps hfr; have S2 := T2.step (T2.ps.set_nm vF) (fr_set p 1 vF w2); have c2 := T2.c; obtain ⟨q1, q2, q3, q4, q5, q6, q7, qz⟩ := T2.ps.bcells; have hp2 := T2.ps.plt)
    | (go_at_call 47; first
      | (have := S4; refine (maybe_out p tb _ _ _ _ [[111, 117, 116, 108, 105, 118, 101, 115]] _ S4.gl S4.ps outlives_words (by decide) (by decide)).mono ?_; rintro e w5 ⟨rfl, hb⟩; have S5 := S4.below hb; have c5 := S5.c)
      | (have := S3; refine (maybe_out p tb _ _ _ _ [[114, 101, 103, 105, 111, 110, 115]] _ S3.gl S3.ps regions_words (by decide) (by decide)).mono ?_; rintro e w4 ⟨rfl, hb⟩; have S4 := S3.below hb; have c4 := S4.c)))
  clear S0 S1 S2 S3 S4 T2 c1 c2 c3 c4 q1 q2 q3 q4 q5 q6 q7 qz hp2
  go_loopw [36] (fun _ wr => At w p tb [tBlk 0 10, tColon 12, tOpen 14, tRet 16, tSemi 22, tClose 24, tClose 26, tEnd 27] bv01 wr) (fun _ _ => 0)
  case atStart => exact S5
  case round =>
    clear S5 c5
    have c5 := hrel.c
    go_wp2_with (first
      | (go_at_call 47; refine (maybe_out p tb _ _ _ _ [[116, 121, 112, 101]] _ hrel.gl hrel.ps type_words (by decide) (by decide)).mono ?_; rintro e w6 ⟨rfl, hb⟩; have S6 := hrel.below hb; have c6 := S6.c)
      | (go_at_call 55; first
        | (have := S8; refine (locals_none p tb _ _ _ _ [108, 101, 116] _ S8.gl S8.ps let_words (by decide)).mono ?_; rintro e w9 ⟨rfl, hb⟩; have S9 := S8.below hb; have c9 := S9.c)
        | (have := S6; refine (locals_none p tb _ _ _ _ [97, 114, 103] _ S6.gl S6.ps arg_words (by decide)).mono ?_; rintro e w7 ⟨rfl, hb⟩; have S7 := S6.below hb; have c7 := S7.c; have S8 := S7.step (S7.ps.set_ar (.int .i64 0)) (fr_set p 6 (.int .i64 0) w7); obtain ⟨q1, q2, q3, q4, q5, q6, q7, qz⟩ := S7.ps.bcells; have hp7 := S7.ps.plt)))
    clear S6 S7 S8 c5 c6 c7 q1 q2 q3 q4 q5 q6 q7 qz hp7
    go_loopw [72] (fun _ wr => At w p tb [tBlk 0 10, tColon 12, tOpen 14, tRet 16, tSemi 22, tClose 24, tClose 26, tEnd 27] bv01 wr ∨ BlDone w p tb [tClose 26, tEnd 27] vF nilS nilS nilS nilS (.int .i64 0) (blkCells nilS 2) wr) (fun _ wr => tokLen p wr)
    case atStart => exact .inl S9
    case round =>
      clear S9 c9
      rcases hrel with hrel | hrel
      · have c9 := hrel.c
        go_wp2_with (first
          | (go_at_call 47; refine (maybe_out p tb _ _ _ _ [[125]] _ hrel.gl hrel.ps close_words (by decide) (by decide)).mono ?_; rintro e w10 ⟨rfl, hb⟩; have S10 := hrel.below hb; have c10 := S10.c; obtain ⟨q1, q2, q3, q4, q5, q6, q7, qz⟩ := S10.ps.bcells; have hp10 := S10.ps.plt))
        go_region_held3 (fun w' => w'.cell? ⟨w.heap.size, 0, none⟩ = some (.pointer (some ⟨p, 0, none⟩)) ∧ w'.cell? ⟨p, 7, none⟩ = some nilS) (first | exact ⟨by assumption, by assumption⟩ | go_keep) ((go_at_call 53; refine (numbered_yes p tb (tBlk 0 10) _ _ 7 0 _ S10.drew.ps (by decide) (by decide) (by decide) (by simp)).mono ?_; rintro e w11 ⟨rfl, hps, hfr⟩; have S11 := S10.drew.step hps hfr; have c11 := S11.c; have r7 := S11.ps.bcells.2.2.2.2.2.2.1))
        go_wp2_with (first
          | (go_at_call 45; refine (expect_ok p tb _ _ _ _ colonOpen _ S11.gl S11.ps hp13 colonOpen_words (by decide) colonOpen_each (by simp only [Ended]; decide) rfl).mono ?_; rintro e w12 ⟨rfl, hps, hfr⟩; have S12 := S11.step hps hfr; have c12 := S12.c; have z12 := S12.ps.bcells.2.2.2.2.2.2; have hp12 := S12.ps.plt))
        clear S10 S11 c9 c10 c11 q1 q2 q3 q4 q5 q6 q7 qz hp10 r7
        obtain ⟨z7, zz⟩ := z12
        go_region_with (go_at_call 56; refine (block_return p tb (tRet 16) _ [tClose 26, tEnd 27] _ _ (by first | exact S12.drew.gl | exact S12.gl) (by first | exact S12.drew.ps | exact S12.ps) hp13 (by decide) (by simp) (by simp only [Ended]; decide) rfl).mono ?_; rintro e w13 ⟨rfl, hps, hfr⟩; have S13 := S12.drew.step hps hfr; have c13 := S13.c; have z13 := S13.ps.bcells.2.2.2.2.2.2.1; have zz13 := S13.ps.bcells.2.2.2.2.2.2.2; have hp13' := S13.ps.plt)
        all_goals go_wp2_with fail
        all_goals refine ⟨.inr (bl_done S13), ?_⟩
        all_goals rw [tokLen_of hrel.ps, tokLen_of (grown_ps1 (S13.ps.set_bl _) _ _)]
        all_goals simp
      · obtain ⟨g, cc, hA, hg, hcs⟩ := hrel
        have c9 := hA.c
        go_wp2_with (first
          | (go_at_call 47; refine (maybe_in p tb _ _ _ _ [[125]] _ hA.gl hA.ps close_words (by decide) (by decide) (by simp)).mono ?_; rintro e w10 ⟨rfl, hps, hfr⟩; have S10 := hA.step hps hfr; have c10 := S10.c)
          | (go_at_call 46; refine (take_end p tb (tEnd 27) _ _ _ S10.ps (by decide)).mono ?_; rintro e w11 ⟨rfl, hb⟩; have S11 := S10.below hb; have hcs' := (hcs.fr hfr (by omega)).below hb))
        go_end0
        exact ⟨g, cc, rfl, S11.ps, S11.fr, hg, hcs'⟩
end Go.Proofs.YthpanohdfelkhaaGreatDoor
