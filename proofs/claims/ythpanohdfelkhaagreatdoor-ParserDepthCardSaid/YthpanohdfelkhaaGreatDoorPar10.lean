/- The parser's types (a basic type) and locals (none, or one). The parser's state (PS) is given; of what lay in memory only the parser's own block changes. -/
import Derived.Test.YthpanohdfelkhaaGreatDoorPar9
namespace Go.Proofs.YthpanohdfelkhaaGreatDoor
open Go.RowKit
def tyWords : List (List UInt8) := [[117, 110, 105, 116], [98, 111, 111, 108], [105, 110, 116]]
theorem ty_words : Words ⟨#[117, 110, 105, 116, 32, 98, 111, 111, 108, 32, 105, 110, 116]⟩ tyWords := ⟨by decide, ascii_of (by decide), by decide +kernel⟩
theorem box5 {w : World} {b : Nat} {x0 x1 x2 x3 x4 : Value} {t : TypeId} (h : w.heap[b]? = some (.cells #[x0, x1, x2, x3, x4] t (0, 0))) :
    w.cell? ⟨b, 0, none⟩ = some x0 ∧ w.cell? ⟨b, 1, none⟩ = some x1 ∧ w.cell? ⟨b, 2, none⟩ = some x2 ∧ w.cell? ⟨b, 3, none⟩ = some x3 ∧ w.cell? ⟨b, 4, none⟩ = some x4 :=
  ⟨by rw [cell_of_blk h]; rfl, by rw [cell_of_blk h]; rfl, by rw [cell_of_blk h]; rfl, by rw [cell_of_blk h]; rfl, by rw [cell_of_blk h]; rfl⟩
/-- the cells of the type 'int' -/
abbrev intCells : Array Value := #[.int .i64 2, .bool false, .int .i64 0, .int .i64 0, nilS]
set_option maxRecDepth 100000 in
set_option maxHeartbeats 1000000 in
theorem types_int (p tb : Nat) (c : Tok) (ts : List Tok) (bv : BV) (w : World) (hG : Glob w) (h : PS w p tb (c :: ts) bv) (_hp13 : 13 ≤ p) (hc : isIdx c tyWords = 2) (hts : ts ≠ []) :
    Calls Tryz.prog 54 #[.pointer (some ⟨p, 0, none⟩)] w fun e w' => e = .returned (.agg intCells) ∧ PS w' p tb ts bv ∧ Fr p w w' := by
  have hp := h.plt
  have htb := h.tlt
  have hps0 : ∀ o o', PS ((w.alloc o).alloc o') p tb (c :: ts) bv := fun o o' => (h.alloc o).alloc o'
  have HG0 : ∀ o o', Hid (Glob ((w.alloc o).alloc o')) := fun o o' => (hG.alloc o).alloc o'
  clear h hG
  go_enter Tryz.func54, Tryz.ntmps54
  go_wp2_with (first
    | (go_at_call 92; refine (accept_in p tb c ts bv _ tyWords 2 _ (HG0 _ _).out (hps0 _ _) ty_words (by decide) hc (by decide) hts).mono ?_; rintro e w1 ⟨rfl, hps1, hfr1⟩; have hs1 := hfr1.size; simp only [World.size_alloc] at hs1; have hB := hfr1.at (two_new1 w _ _) (by omega); obtain ⟨b0, b1, b2, b3, b4⟩ := box5 hB; have hz := frozen_of_blk hB))
  have hon : Only (w.heap.size + 1) w1 _ := (((((Only.refl (w.heap.size + 1) w1).set 0 (.int .i64 2)).set 1 (.bool false)).set 2 (.int .i64 0)).set 3 (.int .i64 0)).set 4 nilS
  refine bodyPost_ret (v := .agg intCells) (by simp [results, Tryz.results54, go_sem, b0, b1, b2, b3, b4]) rfl ⟨rfl, ?_, ?_⟩
  · exact hon.ps hps1 (by omega) (by omega)
  · exact hon.fr ((((Fr.refl _ _).alloc _).alloc _).trans hfr1) (.inl (by omega))
set_option maxRecDepth 100000 in
set_option maxHeartbeats 1000000 in
theorem locals_none (p tb : Nat) (c : Tok) (ts : List Tok) (bv : BV) (s : ByteArray) (x : List UInt8) (w : World) (hG : Glob w) (h : PS w p tb (c :: ts) bv) (hw : Words s [x]) (hc : isIdx c [x] < 0) :
    Calls Tryz.prog 55 #[.pointer (some ⟨p, 0, none⟩), .string s] w fun e w' => e = .returned (.tuple #[]) ∧ Below w.heap.size w w' := by
  go_enter Tryz.func55, Tryz.ntmps55
  go_wp2_with fail
  go_loopw [4] (fun _ wr => wr = w) (fun _ _ => 0)
  case atStart => rfl
  case round =>
    subst hrel
    go_wp2_with (first | (go_at_call 47; refine (maybe_out p tb c ts bv _ [x] _ hG h hw (by simp) hc).mono ?_; rintro e w1 ⟨rfl, hb1⟩))
    go_end0
    exact ⟨rfl, hb1⟩
theorem colon_words : Words ⟨#[58]⟩ [[58]] := ⟨by decide, ascii_of (by decide), by decide +kernel⟩
theorem let_words : Words ⟨#[108, 101, 116]⟩ [[108, 101, 116]] := ⟨by decide, ascii_of (by decide), by decide +kernel⟩
theorem arg_words : Words ⟨#[97, 114, 103]⟩ [[97, 114, 103]] := ⟨by decide, ascii_of (by decide), by decide +kernel⟩
theorem PS.set_nm {w : World} {p tb : Nat} {toks : List Tok} {bv : BV} (h : PS w p tb toks bv) (v : Value) : PS (w.setCell ⟨p, 1, none⟩ v) p tb toks { bv with nm := v } := by
  obtain ⟨ao, c, h⟩ := h
  exact ⟨ao, c, by rw [setBlk _ _ _ _ _ _ _ h.blk]; simp, h.cap, h.ne, by simpa [World.setCell] using h.lt, h.toks.keep (Below.heap_setCell _ _ _ _ h.ne)⟩
theorem PS.set_ty {w : World} {p tb : Nat} {toks : List Tok} {bv : BV} (h : PS w p tb toks bv) (v : Value) : PS (w.setCell ⟨p, 4, none⟩ v) p tb toks { bv with ty := v } := by
  obtain ⟨ao, c, h⟩ := h
  exact ⟨ao, c, by rw [setBlk _ _ _ _ _ _ _ h.blk]; simp, h.cap, h.ne, by simpa [World.setCell] using h.lt, h.toks.keep (Below.heap_setCell _ _ _ _ h.ne)⟩
theorem PS.set_lc {w : World} {p tb : Nat} {toks : List Tok} {bv : BV} (h : PS w p tb toks bv) (v : Value) : PS (w.setCell ⟨p, 5, none⟩ v) p tb toks { bv with lc := v } := by
  obtain ⟨ao, c, h⟩ := h
  exact ⟨ao, c, by rw [setBlk _ _ _ _ _ _ _ h.blk]; simp, h.cap, h.ne, by simpa [World.setCell] using h.lt, h.toks.keep (Below.heap_setCell _ _ _ _ h.ne)⟩
theorem PS.set_ar {w : World} {p tb : Nat} {toks : List Tok} {bv : BV} (h : PS w p tb toks bv) (v : Value) : PS (w.setCell ⟨p, 6, none⟩ v) p tb toks { bv with ar := v } := by
  obtain ⟨ao, c, h⟩ := h
  exact ⟨ao, c, by rw [setBlk _ _ _ _ _ _ _ h.blk]; simp, h.cap, h.ne, by simpa [World.setCell] using h.lt, h.toks.keep (Below.heap_setCell _ _ _ _ h.ne)⟩
theorem PS.set_bl {w : World} {p tb : Nat} {toks : List Tok} {bv : BV} (h : PS w p tb toks bv) (v : Value) : PS (w.setCell ⟨p, 7, none⟩ v) p tb toks { bv with bl := v } := by
  obtain ⟨ao, c, h⟩ := h
  exact ⟨ao, c, by rw [setBlk _ _ _ _ _ _ _ h.blk]; simp, h.cap, h.ne, by simpa [World.setCell] using h.lt, h.toks.keep (Below.heap_setCell _ _ _ _ h.ne)⟩
theorem PS.bcells {w : World} {p tb : Nat} {toks : List Tok} {bv : BV} (h : PS w p tb toks bv) : w.cell? ⟨p, 1, none⟩ = some bv.nm ∧ w.cell? ⟨p, 2, none⟩ = some bv.rg ∧ w.cell? ⟨p, 3, none⟩ = some bv.ol ∧ w.cell? ⟨p, 4, none⟩ = some bv.ty ∧ w.cell? ⟨p, 5, none⟩ = some bv.lc ∧ w.cell? ⟨p, 6, none⟩ = some bv.ar ∧ w.cell? ⟨p, 7, none⟩ = some bv.bl ∧ ∀ o, w.frozen? ⟨p, o, none⟩ = false := by
  obtain ⟨ao, c, h⟩ := h
  exact ⟨by rw [cell_of_blk h.blk]; rfl, by rw [cell_of_blk h.blk]; rfl, by rw [cell_of_blk h.blk]; rfl, by rw [cell_of_blk h.blk]; rfl, by rw [cell_of_blk h.blk]; rfl, by rw [cell_of_blk h.blk]; rfl, by rw [cell_of_blk h.blk]; rfl, frozen_of_blk h.blk⟩
def LcRel (p tb : Nat) (rest : List Tok) (nm rg ol ty ar bl : Value) (x : List UInt8) (n : Int) (w wr : World) : Prop :=
  w = wr ∨ ∃ g c, w.heap.size ≤ g ∧ PS wr p tb rest ⟨nm, rg, ol, ty, .slice (some ⟨g, 0, none⟩) 1 c, ar, bl⟩ ∧ Fr p w wr ∧ LocSl wr (.slice (some ⟨g, 0, none⟩) 1 c) [(x, n)]
theorem cap_ge (e x : Nat) : 1 ≤ (Question.appendCap 1 0 e).cut x := Nat.le_add_right _ _
theorem grown_ps {w : World} {p tb : Nat} {toks : List Tok} {bv : BV} (h : PS w p tb toks bv) (A B : Obj) : PS ((w.alloc A).alloc B).drew.drew p tb toks bv :=
  ((h.alloc A).alloc B).blocks (Nat.le_refl _) rfl rfl
theorem grown_fr {p : Nat} {a w : World} (h : Fr p a w) (A B : Obj) : Fr p a ((w.alloc A).alloc B).drew.drew := ((h.alloc A).alloc B).drew.drew
theorem grown_blk (w : World) (A B : Obj) : ((w.alloc A).alloc B).drew.drew.heap[w.heap.size + 1]? = some B := two_new1 w A B
theorem lc_done {p tb : Nat} {rest : List Tok} {nm rg ol ty ar bl : Value} {x : List UInt8} {n : Int} {w w5 : World} {z : Array Value} {y : Nat} {A : Obj} (h : PS w5 p tb rest ⟨nm, rg, ol, ty, nilS, ar, bl⟩) (F5 : Fr p w w5) (_ : tb < w.heap.size) :
    LcRel p tb rest nm rg ol ty ar bl x n w (((w5.setCell ⟨p, 5, none⟩ (.slice (some ⟨w5.heap.size + 1, 0, none⟩) 1 ((Question.appendCap 1 0 70).cut y))).alloc A).alloc (.cells (#[.string ⟨x.toArray⟩, .int .i64 n] ++ z) 70)).drew.drew := by
  have hon : Only p w5 (w5.setCell ⟨p, 5, none⟩ (.slice (some ⟨w5.heap.size + 1, 0, none⟩) 1 ((Question.appendCap 1 0 70).cut y))) := (Only.refl _ _).set 5 _
  have hk := grown_blk (w5.setCell ⟨p, 5, none⟩ (.slice (some ⟨w5.heap.size + 1, 0, none⟩) 1 ((Question.appendCap 1 0 70).cut y))) A (.cells (#[.string ⟨x.toArray⟩, .int .i64 n] ++ z) 70)
  rw [hon.size] at hk
  have hs := F5.size
  refine .inr ⟨w5.heap.size + 1, _, by omega, grown_ps (h.set_lc _) _ _, grown_fr (hon.fr F5 (.inr rfl)) _ _, .inr ⟨_, _, _, rfl, cap_ge _ _, lt_of_blk hk, ⟨?_, ?_⟩, trivial⟩⟩
  · rw [cell_of_blk hk, Array.getElem?_append_left (by simp)]; rfl
  · rw [cell_of_blk hk, Array.getElem?_append_left (by simp)]; rfl
set_option maxRecDepth 100000 in
set_option maxHeartbeats 1000000 in
theorem locals_one (p tb : Nat) (c t d n s r : Tok) (rs : List Tok) (nm rg ol ty ar bl : Value) (w : World) (hG : Glob w) (h : PS w p tb (c :: t :: d :: n :: s :: r :: rs) ⟨nm, rg, ol, ty, nilS, ar, bl⟩) (hp13 : 13 ≤ p) (hc : 0 ≤ isIdx c [[108, 101, 116]]) (ht : (t.k != 3) = false) (hd : 0 ≤ isIdx d [[58]]) (hn : (n.k != 6) = false) (hs : 0 ≤ isIdx s [[59]]) (hr : isIdx r [[108, 101, 116]] < 0) (he1 : Ended (d :: n :: s :: r :: rs)) (he2 : Ended (s :: r :: rs)) :
    Calls Tryz.prog 55 #[.pointer (some ⟨p, 0, none⟩), .string ⟨#[108, 101, 116]⟩] w fun e w' => ∃ g c, e = .returned (.tuple #[]) ∧ w.heap.size ≤ g ∧ PS w' p tb (r :: rs) ⟨nm, rg, ol, ty, .slice (some ⟨g, 0, none⟩) 1 c, ar, bl⟩ ∧ Fr p w w' ∧ LocSl w' (.slice (some ⟨g, 0, none⟩) 1 c) [(t.tx, n.n)] := by
  have hp := h.plt
  have htb := h.tlt
  have htk : (t.k != 0) = true := by rw [bne_iff_ne]; intro h0; rw [h0] at ht; simp at ht
  have hnk : (n.k != 0) = true := by rw [bne_iff_ne]; intro h0; rw [h0] at hn; simp at hn
  have hf1 := tok_f1
  have HM : Hid True := trivial
  go_enter Tryz.func55, Tryz.ntmps55
  go_wp2_with fail
  go_loopw [4] (fun _ wr => LcRel p tb (r :: rs) nm rg ol ty ar bl t.tx n.n w wr) (fun _ wr => tokLen p wr)
  case atStart => exact .inl rfl
  case round =>
    rcases hrel with rfl | ⟨g, cc, hg, hps, hfr, hl⟩
    · go_wp2_with (first
        | (go_at_call 47; refine (maybe_in p tb c _ _ _ [[108, 101, 116]] _ hG h let_words (by decide) hc (by simp)).mono ?_; rintro e w1 ⟨rfl, hps1, hfr1⟩; have HG1 : Hid (Glob w1) := hG.fr hfr1 hp13; have hs1 := hfr1.size; have hp1 := hps1.plt; have htb1 := hps1.tlt)
        | (go_at_call 46; refine (take_yes p tb t _ _ 3 _ hps1 ht htk (by simp)).mono ?_; rintro e w2 ⟨rfl, hps2, hfr2⟩; have HG2 : Hid (Glob w2) := HG1.out.fr hfr2 hp13; have hs2 := hfr2.size)
        | (go_at_call 45; first
          | (have := HG4; have hon4 : Only w2.heap.size w4 (w4.setCell ⟨w2.heap.size, 1, none⟩ (.int .i64 n.n)) := (Only.refl _ _).set 1 _; have F4 : Fr p w2 (w4.setCell ⟨w2.heap.size, 1, none⟩ (.int .i64 n.n)) := hon4.fr ((((Fr.refl p w2).alloc _).trans hfr3).trans hfr4) (.inl (Nat.le_refl _)); have hC4 : (w4.setCell ⟨w2.heap.size, 1, none⟩ (.int .i64 n.n)).heap[w2.heap.size]? = some (.cells #[.string ⟨t.tx.toArray⟩, .int .i64 n.n] 70 (0, 0)) := (by rw [setBlk _ _ _ _ _ _ _ hB4]; simp); refine (expect_ok p tb _ _ _ _ [[59]] _ (hon4.glob HG4.out (by omega)) (hon4.ps hps4 (by omega) (by omega)) hp13 semi1_words (by decide) (one_each semi1_words) he2 (expGo1 hs)).mono ?_; rintro e w5 ⟨rfl, hps5, hfr5⟩; have hs5 := hfr5.size; rw [hon4.size] at hs5; have hB5 := hfr5.at hC4 (by omega); have F5 : Fr p w w5 := (hfr1.trans hfr2).trans (F4.trans hfr5); clear hon4 F4 hC4 hfr5 b0 b1 b2 b3; obtain ⟨b0, b1, b2, b3⟩ := box2 hB5; obtain ⟨p1, p2, p3, p4, p5, p6, p7, pz⟩ := hps5.bcells; have hp5 := hps5.plt)
          | (have := HM; clear HM; refine (expect_ok p tb _ _ _ _ [[58]] _ (HG2.out.alloc _) (hps2.alloc _) hp13 colon_words (by decide) (one_each colon_words) he1 (expGo1 hd)).mono ?_; rintro e w3 ⟨rfl, hps3, hfr3⟩; have HG3 : Hid (Glob w3) := (HG2.out.alloc _).fr hfr3 hp13; have hs3 := hfr3.size; simp only [World.size_alloc] at hs3; have hB3 := hfr3.at (heap_new w2 _) (by omega)))
        | (go_at_call 94; refine (index_yes p tb n _ _ 6 _ hps3 hn hnk (by simp)).mono ?_; rintro e w4 ⟨rfl, hps4, hfr4⟩; have HG4 : Hid (Glob w4) := HG3.out.fr hfr4 hp13; have hs4 := hfr4.size; have hB4 := hfr4.at hB3 (by omega); obtain ⟨b0, b1, b2, b3⟩ := box2 hB4))
      have hz := hps5.bcells
      go_region_with (fail)
      all_goals go_wp2_with fail
      all_goals refine ⟨lc_done hps5 F5 htb, ?_⟩
      all_goals rw [tokLen_of h, tokLen_of (grown_ps (hps5.set_lc _) _ _)]
      all_goals simp only [List.length_cons]
      all_goals omega
    · have HGr : Hid (Glob wr) := hG.fr hfr hp13
      go_wp2_with (first
        | (go_at_call 47; refine (maybe_out p tb r _ _ _ [[108, 101, 116]] _ HGr.out hps let_words (by decide) hr).mono ?_; rintro e w1 ⟨rfl, hb1⟩))
      go_end0
      exact ⟨g, cc, rfl, hg, hps.keep hb1, hfr.trans (Fr.of_below hb1), hl.below hb1⟩
end Go.Proofs.YthpanohdfelkhaaGreatDoor
