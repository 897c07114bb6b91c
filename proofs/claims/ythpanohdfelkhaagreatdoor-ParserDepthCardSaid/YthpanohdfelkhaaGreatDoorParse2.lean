/- parser.Parse where the parser returns: the example of chapter 21, and ParserDepth's texts of at most 32 projections. -/
import Derived.Test.YthpanohdfelkhaaGreatDoorVal11
namespace Go.Proofs.YthpanohdfelkhaaGreatDoor
open Go.RowKit
/-- the parser's block where run has ended -/
theorem body_cells {W' w1 : World} {p tb : Nat} {toks : List Tok} {bv : BV} (h : PS W' p tb toks bv) (hs : Same p W' w1) :
    w1.cell? ⟨p, 1, none⟩ = some bv.nm ∧ w1.cell? ⟨p, 2, none⟩ = some bv.rg ∧ w1.cell? ⟨p, 3, none⟩ = some bv.ol ∧ w1.cell? ⟨p, 4, none⟩ = some bv.ty ∧ w1.cell? ⟨p, 5, none⟩ = some bv.lc ∧ w1.cell? ⟨p, 6, none⟩ = some bv.ar ∧ w1.cell? ⟨p, 7, none⟩ = some bv.bl := by
  obtain ⟨ao, c, h⟩ := h
  have hb := (hs.1 p (Nat.le_refl _)).trans h.blk
  refine ⟨?_, ?_, ?_, ?_, ?_, ?_, ?_⟩ <;> rw [cell_of_blk hb] <;> rfl
theorem CellsAt.same {W w1 : World} {p g : Nat} {cs : Array Value} (h : CellsAt W g cs) (hs : Same p W w1) (hp : p ≤ g) : CellsAt w1 g cs := fun i u hi => (World.cell?_of_block (a := ⟨g, i, none⟩) (hs.1 g hp)).trans (h i u hi)
set_option maxRecDepth 100000 in
set_option maxHeartbeats 2000000 in
theorem parse_T0 (s : ByteArray) (w : World) (hG : Glob w) (hs : s.size ≤ 1000000) (hlex : Lx.lex s.data.toList = .ok toks0) :
    Calls Tryz.prog 10 #[.string s] w fun e w' => ∃ g c, e = .returned (.tuple #[bodyV ⟨#[102]⟩ none 0 0 none 0 0 (some ⟨g, 0, none⟩) 1 c, .int .i64 s.size, .int .i64 0]) ∧ Below w.heap.size w w' ∧ CellsAt w' g (blkCells nilS 2) := by
  have Hlex := Lib.hid hlex; clear hlex
  have HG : ∀ o, Hid (Glob (w.alloc o)) := fun o => Lib.hid (hG.alloc o)
  clear hG
  go_enter Tryz.func10, Tryz.ntmps10
  go_wp2_with (first
    | (go_at_call 20; refine (run_good s toks0 (fun W p tb W' => ∃ g c, PS W' p tb [tEnd 27] ⟨vF, nilS, nilS, nilS, nilS, .int .i64 0, .slice (some ⟨g, 0, none⟩) 1 c⟩ ∧ W.heap.size ≤ g ∧ CellsAt W' g (blkCells nilS 2)) _ (HG _).out hs Hlex.out (fun W p tb hG' hP hp => (all_0 p tb W hG' hP hp).mono (by rintro e w' ⟨g, c, rfl, h1, h2, h3, h4⟩; exact ⟨rfl, h2, g, c, h1, h3, h4⟩))).mono ?_; rintro e w1 ⟨p, tb, W, W', rfl, hb1, hp1, hp2, hsame, g, c, hPS, hg, hC⟩; obtain ⟨p1, p2, p3, p4, p5, p6, p7⟩ := body_cells hPS hsame; have hC1 := hC.same hsame (by omega); have hpl := block_of_cell p1; have hs1 := hb1.size; simp only [World.size_alloc] at hs1 hp1; have m0 := (hb1.block w.heap.size (by simp)).trans (heap_new w _); have B1 : Hid (Below w.heap.size w w1) := ((Below.refl _ _).alloc (Nat.le_refl _) _).trans (hb1.mono (by simp)); have HC := Lib.hid hC1; have hgw : w.heap.size < g := (by omega); clear hb1 hC hC1 hPS hsame hp2 hg)
    | (go_at_call 22; refine (check_T0 g c _ HC.out).mono ?_; rintro e w2 ⟨rfl, hb2⟩; have hs2 := hb2.size; have n0 := kept hb2 m0; obtain ⟨x0, x1, x2, x3, x4, x5, x6⟩ := box7 n0; have hz := frozen_of_blk n0; have hl := lt_of_blk n0; have q1 := (hb2.cell (p := ⟨p, 1, none⟩) hpl).trans p1; have q2 := (hb2.cell (p := ⟨p, 2, none⟩) hpl).trans p2; have q3 := (hb2.cell (p := ⟨p, 3, none⟩) hpl).trans p3; have q4 := (hb2.cell (p := ⟨p, 4, none⟩) hpl).trans p4; have q5 := (hb2.cell (p := ⟨p, 5, none⟩) hpl).trans p5; have q6 := (hb2.cell (p := ⟨p, 6, none⟩) hpl).trans p6; have q7 := (hb2.cell (p := ⟨p, 7, none⟩) hpl).trans p7; have B2 : Hid (Below w.heap.size w w2) := B1.out.trans (hb2.mono B1.out.size); have HC2 := Lib.hid (HC.out.below hb2); clear hb2))
  have hon : Only w.heap.size w2 _ := ((((((((Only.refl w.heap.size w2).set 0 vF).set 1 nilS).set 2 nilS).set 3 nilS).set 4 nilS).set 5 (.int .i64 0)).set 6 (.slice (some ⟨g, 0, none⟩) 1 c))
  refine bodyPost_ret (v := .tuple #[bodyV ⟨#[102]⟩ none 0 0 none 0 0 (some ⟨g, 0, none⟩) 1 c, .int .i64 s.size, .int .i64 0]) (by simp [results, Tryz.results10, go_sem, x0, x1, x2, x3, x4, x5, x6]) rfl ⟨g, c, rfl, hon.below B2.out (Nat.le_refl _), ?_⟩
  exact fun i u hi => (World.cell?_of_block (a := ⟨g, i, none⟩) (hon.block g (by omega))).trans (HC2.out i u hi)
/-- the statement's memory, where run has ended -/
theorem sx_of {W W' w1 : World} {p tb : Nat} {toks : List Tok} {k gt ct gl cl : Nat} (h : BkDone W p tb toks k gt ct gl cl W') (hs : Same p W' w1) (hp : p < W.heap.size) :
    ∃ g c a sa0 sa sc0 sc st, (w1.cell? ⟨p, 1, none⟩ = some vF ∧ w1.cell? ⟨p, 2, none⟩ = some nilS ∧ w1.cell? ⟨p, 3, none⟩ = some nilS ∧ w1.cell? ⟨p, 4, none⟩ = some (.slice (some ⟨gt, 0, none⟩) 1 ct) ∧ w1.cell? ⟨p, 5, none⟩ = some (.slice (some ⟨gl, 0, none⟩) 1 cl) ∧ w1.cell? ⟨p, 6, none⟩ = some (.int .i64 0) ∧ w1.cell? ⟨p, 7, none⟩ = some (.slice (some ⟨g, 0, none⟩) 1 c)) ∧ Sx w1 gt gl g a sa0 sa sc0 sc st k := by
  obtain ⟨g, c, st, hAt, hT, hg, hB, hS⟩ := h
  obtain ⟨sa0, sc0, a, sa, sc, h1, h2, h3, h4⟩ := hS
  obtain ⟨stb, stc, rfl, s1, s2, s3, s4⟩ := ownsRow_cells h1
  refine ⟨g, c, a, sa0, sa, sc0, sc, stb, body_cells hAt.ps hs, ?_⟩
  have hc : ∀ b o v, p ≤ b → W'.cell? ⟨b, o, none⟩ = some v → w1.cell? ⟨b, o, none⟩ = some v := fun b o v hb hv => (World.cell?_of_block (a := ⟨b, o, none⟩) (hs.1 b hb)).trans hv
  have hl0 : W'.cell? ⟨gl, 0, none⟩ = some (.string ⟨#[120]⟩) ∧ W'.cell? ⟨gl, 1, none⟩ = some (.int .i64 0) := by
    rcases hT.lc with ⟨e, _⟩ | ⟨lb, lo, c', e, _, _, hl⟩
    · cases e
    · cases e
      have := hl.at (k := 0) (x := ([120], 0)) rfl
      simpa using this
  have hgl := hT.l
  have hgt := hT.t
  obtain ⟨o0, o1, o2, o3, _⟩ := box4' h3
  refine ⟨hT.tc.same hs (by omega), hc _ _ _ (by omega) hl0.1, hc _ _ _ (by omega) hl0.2, ⟨_, hB.same hs (by omega)⟩, fun i u hi => hc _ _ _ (by omega) (s4 i u (by simpa [stmtVals] using hi)), ⟨hc _ _ _ (by omega) o0, hc _ _ _ (by omega) o1, hc _ _ _ (by omega) o2, hc _ _ _ (by omega) o3⟩, fun hk => ?_⟩
  obtain ⟨k', rfl⟩ : ∃ k', k = k' + 1 := ⟨k - 1, by omega⟩
  obtain ⟨b, c', e, t1, t2, t3, t4⟩ := ownsRow_cells h4
  cases e
  refine ⟨b, rfl, fun j hj => ⟨hc _ _ _ (by omega) (t4 (j * 2) _ ?_), hc _ _ _ (by omega) (t4 (j * 2 + 1) _ ?_)⟩⟩
  · rw [zeros, List.getElem?_replicate, if_pos (by omega)]
  · rw [zeros, List.getElem?_replicate, if_pos (by omega)]
set_option maxRecDepth 100000 in
set_option maxHeartbeats 2000000 in
theorem parse_S0 (s : ByteArray) (w : World) (hG : Glob w) (hs : s.size ≤ 1000000) (hlex : Lx.lex s.data.toList = .ok (toksS 0)) :
    Calls Tryz.prog 10 #[.string s] w fun e w' => ∃ ta tc la lc ba bc, e = .returned (.tuple #[bodyV ⟨#[102]⟩ ta 1 tc la 1 lc ba 1 bc, .int .i64 s.size, .int .i64 0]) ∧ Below w.heap.size w w' := by
  have Hlex := Lib.hid hlex; clear hlex
  have HG : ∀ o, Hid (Glob (w.alloc o)) := fun o => Lib.hid (hG.alloc o)
  clear hG
  go_enter Tryz.func10, Tryz.ntmps10
  go_wp2_with (first
    | (go_at_call 20; refine (run_good s (toksS 0) (fun W p tb W' => ∃ gt ct gl cl, BkDone W p tb [tEnd (posK 0 + 13)] 0 gt ct gl cl W') _ (HG _).out hs Hlex.out (fun W p tb hG' hP hp => (all_S p tb 0 W hG' hP hp (by decide)).mono (by rintro e w' ⟨rfl, gt, ct, gl, cl, hb⟩; exact ⟨rfl, by obtain ⟨_, _, _, hA, _⟩ := hb; exact hA.fr, gt, ct, gl, cl, hb⟩))).mono ?_; rintro e w1 ⟨p, tb, W, W', rfl, hb1, hp1, hp2, hsame, gt, ct, gl, cl, hbk⟩; obtain ⟨g, c, a, sa0, sa, sc0, sc, st, ⟨p1, p2, p3, p4, p5, p6, p7⟩, hSx⟩ := sx_of hbk hsame hp2; have hpl := block_of_cell p1; have hs1 := hb1.size; simp only [World.size_alloc] at hs1 hp1; have m0 := (hb1.block w.heap.size (by simp)).trans (heap_new w _); have B1 : Hid (Below w.heap.size w w1) := ((Below.refl _ _).alloc (Nat.le_refl _) _).trans (hb1.mono (by simp)); have HC := Lib.hid hSx; clear hb1 hbk hSx hsame hp2)
    | (go_at_call 22; refine (check_S 0 gt ct gl cl g c a sa0 sa sc0 sc st 0 _ HC.out (by decide) (.inl rfl) rfl).mono ?_; rintro e w2 ⟨rfl, hb2⟩; have hs2 := hb2.size; have n0 := kept hb2 m0; obtain ⟨x0, x1, x2, x3, x4, x5, x6⟩ := box7 n0; have hz := frozen_of_blk n0; have hl := lt_of_blk n0; have q1 := (hb2.cell (p := ⟨p, 1, none⟩) hpl).trans p1; have q2 := (hb2.cell (p := ⟨p, 2, none⟩) hpl).trans p2; have q3 := (hb2.cell (p := ⟨p, 3, none⟩) hpl).trans p3; have q4 := (hb2.cell (p := ⟨p, 4, none⟩) hpl).trans p4; have q5 := (hb2.cell (p := ⟨p, 5, none⟩) hpl).trans p5; have q6 := (hb2.cell (p := ⟨p, 6, none⟩) hpl).trans p6; have q7 := (hb2.cell (p := ⟨p, 7, none⟩) hpl).trans p7; have B2 : Hid (Below w.heap.size w w2) := B1.out.trans (hb2.mono B1.out.size); clear hb2))
  have hon : Only w.heap.size w2 _ := ((((((((Only.refl w.heap.size w2).set 0 vF).set 1 nilS).set 2 nilS).set 3 (.slice (some ⟨gt, 0, none⟩) 1 ct)).set 4 (.slice (some ⟨gl, 0, none⟩) 1 cl)).set 5 (.int .i64 0)).set 6 (.slice (some ⟨g, 0, none⟩) 1 c))
  refine bodyPost_ret (v := .tuple #[bodyV ⟨#[102]⟩ (some ⟨gt, 0, none⟩) 1 ct (some ⟨gl, 0, none⟩) 1 cl (some ⟨g, 0, none⟩) 1 c, .int .i64 s.size, .int .i64 0]) (by simp [results, Tryz.results10, go_sem, x0, x1, x2, x3, x4, x5, x6]) rfl ⟨_, _, _, _, _, _, rfl, hon.below B2.out (Nat.le_refl _)⟩
set_option maxRecDepth 100000 in
set_option maxHeartbeats 2000000 in
theorem parse_Sk (k : Nat) (s : ByteArray) (w : World) (hk1 : 1 ≤ k) (hk32 : k ≤ 32) (hG : Glob w) (hs : s.size ≤ 1000000) (hlex : Lx.lex s.data.toList = .ok (toksS k)) :
    Calls Tryz.prog 10 #[.string s] w fun e w' => e = .returned (.tuple #[body00, .int .i64 s.size, .int .i64 16]) ∧ Below w.heap.size w w' := by
  have Hlex := Lib.hid hlex; clear hlex
  have HG : ∀ o, Hid (Glob (w.alloc o)) := fun o => Lib.hid (hG.alloc o)
  have Hk : Hid (codeS k = 22) := Lib.hid (by simp [codeS]; omega)
  clear hG
  go_enter Tryz.func10, Tryz.ntmps10
  go_wp2_with (first
    | (go_at_call 20; refine (run_good s (toksS k) (fun W p tb W' => ∃ gt ct gl cl, BkDone W p tb [tEnd (posK k + 13)] k gt ct gl cl W') _ (HG _).out hs Hlex.out (fun W p tb hG' hP hp => (all_S p tb k W hG' hP hp hk32).mono (by rintro e w' ⟨rfl, gt, ct, gl, cl, hb⟩; exact ⟨rfl, by obtain ⟨_, _, _, hA, _⟩ := hb; exact hA.fr, gt, ct, gl, cl, hb⟩))).mono ?_; rintro e w1 ⟨p, tb, W, W', rfl, hb1, hp1, hp2, hsame, gt, ct, gl, cl, hbk⟩; obtain ⟨g, c, a, sa0, sa, sc0, sc, st, ⟨p1, p2, p3, p4, p5, p6, p7⟩, hSx⟩ := sx_of hbk hsame hp2; have hpl := block_of_cell p1; have hs1 := hb1.size; simp only [World.size_alloc] at hs1 hp1; have m0 := (hb1.block w.heap.size (by simp)).trans (heap_new w _); have B1 : Hid (Below w.heap.size w w1) := ((Below.refl _ _).alloc (Nat.le_refl _) _).trans (hb1.mono (by simp)); have HC := Lib.hid hSx; clear hb1 hbk hSx hsame hp2)
    | (go_at_call 22; refine (check_S 22 gt ct gl cl g c a sa0 sa sc0 sc st k _ HC.out hk32 (.inr rfl) Hk.out).mono ?_; rintro e w2 ⟨rfl, hb2⟩; have hs2 := hb2.size; have n0 := kept hb2 m0; obtain ⟨x0, x1, x2, x3, x4, x5, x6⟩ := box7 n0; have hz := frozen_of_blk n0; have hl := lt_of_blk n0; have B2 : Hid (Below w.heap.size w w2) := B1.out.trans (hb2.mono B1.out.size); clear hb2))
  have hon : Only w.heap.size w2 _ := ((((((((Only.refl w.heap.size w2).set 0 (.string ⟨#[]⟩)).set 1 nilS).set 2 nilS).set 3 nilS).set 4 nilS).set 5 (.int .i64 0)).set 6 nilS)
  refine bodyPost_ret (v := .tuple #[body00, .int .i64 s.size, .int .i64 16]) (by simp [results, Tryz.results10, go_sem, x0, x1, x2, x3, x4, x5, x6]) rfl ⟨rfl, hon.below B2.out (Nat.le_refl _)⟩
end Go.Proofs.YthpanohdfelkhaaGreatDoor
