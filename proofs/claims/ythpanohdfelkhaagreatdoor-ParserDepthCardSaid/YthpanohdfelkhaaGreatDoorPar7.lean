/- The parser's operand (a copy of a place) and rvalue (a plain use of such an operand). The parser's state (PS) is given; of what lay in memory only the parser's own block changes. -/
import Derived.Test.YthpanohdfelkhaaGreatDoorPar6
namespace Go.Proofs.YthpanohdfelkhaaGreatDoor
open Go.RowKit
def opWords : List (List UInt8) := [[99, 111, 112, 121], [109, 111, 118, 101], [102, 97, 108, 115, 101], [116, 114, 117, 101], [117, 110, 105, 116]]
theorem op_words : Words ⟨#[99, 111, 112, 121, 32, 109, 111, 118, 101, 32, 102, 97, 108, 115, 101, 32, 116, 114, 117, 101, 32, 117, 110, 105, 116]⟩ opWords := ⟨by decide, ascii_of (by decide), by decide +kernel⟩
theorem box4' {w : World} {b : Nat} {x0 x1 x2 x3 : Value} {t : TypeId} (h : w.heap[b]? = some (.cells #[x0, x1, x2, x3] t (0, 0))) :
    w.cell? ⟨b, 0, none⟩ = some x0 ∧ w.cell? ⟨b, 1, none⟩ = some x1 ∧ w.cell? ⟨b, 2, none⟩ = some x2 ∧ w.cell? ⟨b, 3, none⟩ = some x3 ∧
    w.frozen? ⟨b, 0, none⟩ = false ∧ w.frozen? ⟨b, 1, none⟩ = false ∧ w.frozen? ⟨b, 2, none⟩ = false ∧ w.frozen? ⟨b, 3, none⟩ = false := box4 h
set_option maxRecDepth 100000 in
set_option maxHeartbeats 1000000 in
theorem operand_shallow (p tb : Nat) (c t : Tok) (ts : List Tok) (r : Tok) (rs : List Tok) (bv : BV) (ls : List (List UInt8 × Int)) (i : Int) (k : Nat) (w : World) (hG : Glob w) (h : PS w p tb (c :: t :: ts) bv) (hp13 : 13 ≤ p) (hlen : ls.length ≤ 1000000000) (hl : LocSl w bv.lc ls) (hlp : ∀ o n m, bv.lc ≠ .slice (some ⟨p, o, none⟩) n m) (hc : isIdx c opWords = 0) (hk : (t.k != 3) = false) (hi : idxN ls t.tx 0 = i) (hi0 : 0 ≤ i) (hd : Dots k ts (r :: rs)) (hr : isIdx r [[46]] < 0) (hk32 : k ≤ 32) :
    Calls Tryz.prog 133 #[.pointer (some ⟨p, 0, none⟩)] w fun e w' => ∃ sa sc, e = .returned (.agg #[.int .i64 0, .int .i64 i, .slice sa k sc, .int .i64 0]) ∧ Fr p w w' ∧ PS w' p tb (r :: rs) bv ∧ w'.ownsRow w.heap.size 191 2 (.slice sa k sc) k (zeros (2 * k)) := by
  have hp := h.plt
  have htb := h.tlt
  have hps0 : ∀ o, PS (w.alloc o) p tb (c :: t :: ts) bv := fun o => h.alloc o
  have HG0 : ∀ o, Hid (Glob (w.alloc o)) := fun o => hG.alloc o
  have hl0 : ∀ o, LocSl (w.alloc o) bv.lc ls := fun o => hl.below ((Below.refl _ _).alloc (Nat.le_refl _) o)
  have Hi := Lib.hid hi; clear hi
  go_enter Tryz.func133, Tryz.ntmps133
  go_wp2_with (first | (go_at_call 92; refine (accept_in p tb c _ bv _ opWords 0 _ (HG0 _).out (hps0 _) op_words (by decide) hc (by decide) (by simp)).mono ?_; rintro e w1 ⟨rfl, hps1, hfr1⟩; have hs1 := hfr1.size; have hb1 := hfr1.block w.heap.size (by simp) (by omega); have HG1 : Hid (Glob w1) := (HG0 _).out.fr hfr1 hp13; have hl1 := (hl0 _).fr hfr1 hlp) | (go_at_call 77; refine (place_shallow p tb t ts r rs bv ls i k _ HG1.out hps1 hp13 hlen hl1 hk Hi.out hi0 hd hr hk32).mono ?_; rintro e w2 ⟨sa, sc, rfl, hfr2, hps2, hown2⟩; have hs2 := hfr2.size; have hb2 := (hfr2.block w.heap.size (by simp at hs1; omega) (by omega)).trans (hb1.trans (heap_new _ _)); obtain ⟨c0, c1, c2, c3, f0, f1, f2, f3⟩ := box4 hb2))
  have hbn : some w.heap.size ≠ (Value.slice sa k sc).ownBlock := own_ne hown2 hb2 (by decide)
  simp only [World.size_alloc] at hs1
  refine bodyPost_ret (v := .agg #[.int .i64 0, .int .i64 i, .slice sa k sc, .int .i64 0]) (by simp [results, Tryz.results133, go_sem, c0, c1, c2, c3]) rfl ⟨sa, sc, rfl, ?_, ?_, ?_⟩
  · exact ((((((((Fr.refl _ _).alloc _).trans hfr1).trans hfr2).setCell (.inl (by simp)) _).setCell (.inl (by simp)) _).setCell (.inl (by simp)) _).setCell (.inl (by simp)) _)
  · exact (((hps2.setCell (by simp; omega) (by simp; omega) _).setCell (by simp; omega) (by simp; omega) _).setCell (by simp; omega) (by simp; omega) _).setCell (by simp; omega) (by simp; omega) _
  · exact ownsRow_set (ownsRow_set (ownsRow_set (ownsRow_set (ownsRow_base hown2 (by omega)) hbn _) hbn _) hbn _) hbn _
set_option maxRecDepth 100000 in
set_option maxHeartbeats 1000000 in
theorem operand_deep (p tb : Nat) (c t : Tok) (ts : List Tok) (r : Tok) (rs : List Tok) (bv : BV) (ls : List (List UInt8 × Int)) (i : Int) (k : Nat) (w : World) (hG : Glob w) (h : PS w p tb (c :: t :: ts) bv) (hp13 : 13 ≤ p) (hlen : ls.length ≤ 1000000000) (hl : LocSl w bv.lc ls) (hlp : ∀ o n m, bv.lc ≠ .slice (some ⟨p, o, none⟩) n m) (hc : isIdx c opWords = 0) (hk : (t.k != 3) = false) (hi : idxN ls t.tx 0 = i) (hi0 : 0 ≤ i) (hd : Dots k ts (r :: rs)) (hr : isIdx r [[46]] < 0) (hk32 : 32 < k) :
    Calls Tryz.prog 133 #[.pointer (some ⟨p, 0, none⟩)] w fun e w' => e = FailV (dotPos 32 ts) 19 ∧ Fr p w w' := by
  have hp := h.plt
  have htb := h.tlt
  have hps0 : ∀ o, PS (w.alloc o) p tb (c :: t :: ts) bv := fun o => h.alloc o
  have HG0 : ∀ o, Hid (Glob (w.alloc o)) := fun o => hG.alloc o
  have hl0 : ∀ o, LocSl (w.alloc o) bv.lc ls := fun o => hl.below ((Below.refl _ _).alloc (Nat.le_refl _) o)
  have Hi := Lib.hid hi; clear hi
  go_enter Tryz.func133, Tryz.ntmps133
  go_wp2_with (first | (go_at_call 92; refine (accept_in p tb c _ bv _ opWords 0 _ (HG0 _).out (hps0 _) op_words (by decide) hc (by decide) (by simp)).mono ?_; rintro e w1 ⟨rfl, hps1, hfr1⟩; have hs1 := hfr1.size; have hb1 := hfr1.block w.heap.size (by simp) (by omega); have HG1 : Hid (Glob w1) := (HG0 _).out.fr hfr1 hp13; have hl1 := (hl0 _).fr hfr1 hlp) | (go_at_call 77; refine (place_deep p tb t ts r rs bv ls i k _ HG1.out hps1 hp13 hlen hl1 hk Hi.out hi0 hd hr hk32).mono ?_; rintro e w2 ⟨rfl, hfr2⟩))
  exact ⟨rfl, rfl, (((Fr.refl _ _).alloc _).trans hfr1).trans hfr2⟩
theorem box7 {w : World} {b : Nat} {x0 x1 x2 x3 x4 x5 x6 : Value} {t : TypeId} (h : w.heap[b]? = some (.cells #[x0, x1, x2, x3, x4, x5, x6] t (0, 0))) :
    w.cell? ⟨b, 0, none⟩ = some x0 ∧ w.cell? ⟨b, 1, none⟩ = some x1 ∧ w.cell? ⟨b, 2, none⟩ = some x2 ∧ w.cell? ⟨b, 3, none⟩ = some x3 ∧ w.cell? ⟨b, 4, none⟩ = some x4 ∧ w.cell? ⟨b, 5, none⟩ = some x5 ∧ w.cell? ⟨b, 6, none⟩ = some x6 :=
  ⟨by rw [cell_of_blk h]; rfl, by rw [cell_of_blk h]; rfl, by rw [cell_of_blk h]; rfl, by rw [cell_of_blk h]; rfl, by rw [cell_of_blk h]; rfl, by rw [cell_of_blk h]; rfl, by rw [cell_of_blk h]; rfl⟩
theorem way5 {p : Nat} {w w1 w2 w3 w4 w5 : World} {o : Obj} (h1 : Below (w.alloc o).heap.size (w.alloc o) w1) (h2 : Below w1.heap.size w1 w2) (h3 : Below w2.heap.size w2 w3) (h4 : Below w3.heap.size w3 w4) (h5 : Fr p w4 w5) (hp : p < w.heap.size) : Fr p w w5 ∧ w5.heap[w.heap.size]? = some o := by
  have a1 := h1.size; have a2 := h2.size; have a3 := h3.size; have a4 := h4.size
  simp only [World.size_alloc] at a1
  refine ⟨((((((Fr.refl _ _).alloc o).trans (Fr.of_below h1)).trans (Fr.of_below h2)).trans (Fr.of_below h3)).trans (Fr.of_below h4)).trans h5, ?_⟩
  rw [h5.block _ (by omega) (by omega), h4.block _ (by omega), h3.block _ (by omega), h2.block _ (by omega), h1.block _ (by simp)]
  exact heap_new w o
def unWords : List (List UInt8) := [[110, 101, 103], [110, 111, 116]]
theorem un_words : Words ⟨#[110, 101, 103, 32, 110, 111, 116]⟩ unWords := ⟨by decide, ascii_of (by decide), by decide +kernel⟩
def biWords : List (List UInt8) := [[97, 100, 100], [115, 117, 98], [109, 117, 108], [101, 113], [108, 116], [97, 110, 100]]
theorem bi_words : Words ⟨#[97, 100, 100, 32, 115, 117, 98, 32, 109, 117, 108, 32, 101, 113, 32, 108, 116, 32, 97, 110, 100]⟩ biWords := ⟨by decide, ascii_of (by decide), by decide +kernel⟩
theorem amp_words : Words ⟨#[38]⟩ [[38]] := ⟨by decide, ascii_of (by decide), by decide +kernel⟩
theorem paren_words : Words ⟨#[40]⟩ [[40]] := ⟨by decide, ascii_of (by decide), by decide +kernel⟩
set_option maxRecDepth 100000 in
set_option maxHeartbeats 1000000 in
theorem rvalue_shallow (p tb : Nat) (c t : Tok) (ts : List Tok) (r : Tok) (rs : List Tok) (bv : BV) (ls : List (List UInt8 × Int)) (i : Int) (k : Nat) (w : World) (hG : Glob w) (h : PS w p tb (c :: t :: ts) bv) (hp13 : 13 ≤ p) (hlen : ls.length ≤ 1000000000) (hl : LocSl w bv.lc ls) (hlp : ∀ o n m, bv.lc ≠ .slice (some ⟨p, o, none⟩) n m) (hc : isIdx c opWords = 0) (hc1 : isIdx c [[38]] < 0) (hc2 : isIdx c unWords < 0) (hc3 : isIdx c biWords < 0) (hc4 : isIdx c [[40]] < 0) (hk : (t.k != 3) = false) (hi : idxN ls t.tx 0 = i) (hi0 : 0 ≤ i) (hd : Dots k ts (r :: rs)) (hr : isIdx r [[46]] < 0) (hk32 : k ≤ 32) :
    Calls Tryz.prog 100 #[.pointer (some ⟨p, 0, none⟩)] w fun e w' => ∃ sa sc g, e = .returned (.agg #[.int .i64 0, .int .i64 0, .int .i64 0, .bool false, .int .i64 0, .slice none 0 0, .slice (some ⟨g, 0, none⟩) 1 1]) ∧ Fr p w w' ∧ PS w' p tb (r :: rs) bv ∧ w'.ownsRow w.heap.size 191 2 (.slice sa k sc) k (zeros (2 * k)) ∧ w.heap.size ≤ g ∧ w'.heap[g]? = some (.cells #[.int .i64 0, .int .i64 i, .slice sa k sc, .int .i64 0] 181 (0, 0)) := by
  have hp := h.plt
  have htb := h.tlt
  have hps0 : ∀ o, PS (w.alloc o) p tb (c :: t :: ts) bv := fun o => h.alloc o
  have HG0 : ∀ o, Hid (Glob (w.alloc o)) := fun o => hG.alloc o
  have hl0 : ∀ o, LocSl (w.alloc o) bv.lc ls := fun o => hl.below ((Below.refl _ _).alloc (Nat.le_refl _) o)
  have Hi := Lib.hid hi; clear hi
  have hlt := h.plt
  clear h hl hG
  go_enter Tryz.func100, Tryz.ntmps100
  go_wp2_with (first
    | (go_at_call 47; first
      | (have := HG3; refine (maybe_out p tb c _ bv _ [[40]] _ HG3.out hps3 paren_words (by decide) hc4).mono ?_; rintro e w4 ⟨rfl, hb4⟩; have hps4 := hps3.keep hb4; have HG4 : Hid (Glob w4) := HG3.out.below hb4; have hl4 := hl3.below hb4)
      | (refine (maybe_out p tb c _ bv _ [[38]] _ (HG0 _).out (hps0 _) amp_words (by decide) hc1).mono ?_; rintro e w1 ⟨rfl, hb1⟩; have hps1 := (hps0 _).keep hb1; have HG1 : Hid (Glob w1) := (HG0 _).out.below hb1; have hl1 := (hl0 _).below hb1))
    | (go_at_call 92; first
      | (have := HG2; refine (accept_out p tb c _ bv _ biWords _ HG2.out hps2 bi_words (by decide) hc3).mono ?_; rintro e w3 ⟨rfl, hb3⟩; have hps3 := hps2.keep hb3; have HG3 : Hid (Glob w3) := HG2.out.below hb3; have hl3 := hl2.below hb3)
      | (refine (accept_out p tb c _ bv _ unWords _ HG1.out hps1 un_words (by decide) hc2).mono ?_; rintro e w2 ⟨rfl, hb2⟩; have hps2 := hps1.keep hb2; have HG2 : Hid (Glob w2) := HG1.out.below hb2; have hl2 := hl1.below hb2))
    | (go_at_call 133; refine (operand_shallow p tb c t ts r rs bv ls i k _ HG4.out hps4 hp13 hlen hl4 hlp hc hk Hi.out hi0 hd hr hk32).mono ?_; rintro e w5 ⟨sa, sc, rfl, hfr5, hps5, hown5⟩; have hq := way5 hb1 hb2 hb3 hb4 hfr5 hp; have hs5 := hq.1; have hb5 := hq.2; have hblt := lt_of_blk hb5; obtain ⟨c0, c1, c2, c3, c4, c5, c6⟩ := box7 hb5; have hfz := frozen_of_blk hb5))
  have hon : Only w.heap.size w5 _ := ((((((((Only.refl w.heap.size w5).set 0 (.int .i64 0)).set 1 (.int .i64 0)).set 2 (.int .i64 0)).set 3 (.bool false)).set 4 (.int .i64 0)).set 5 (.slice none 0 0)).set 6 (.slice (some ⟨w5.heap.size, 0, none⟩) 1 1))
  have hbn : some w.heap.size ≠ (Value.slice sa k sc).ownBlock := own_ne hown5 hb5 (by decide)
  have hs4 := hfr5.size
  have hs3 := hb4.size
  have hs2 := hb3.size
  have hs1 := hb2.size
  have hs0 := hb1.size
  simp only [World.size_alloc] at hs0
  refine bodyPost_ret (v := .agg #[.int .i64 0, .int .i64 0, .int .i64 0, .bool false, .int .i64 0, .slice none 0 0, .slice (some ⟨w5.heap.size, 0, none⟩) 1 1]) (by simp [results, Tryz.results100, go_sem, c0, c1, c2, c3, c4, c5, c6, hblt]) rfl ⟨sa, sc, w5.heap.size, rfl, ?_, ?_, ?_, ?_, ?_⟩
  · exact (hon.fr hs5 (.inl (Nat.le_refl _))).alloc _
  · exact (hon.ps hps5 (by omega) (by omega)).alloc _
  · exact (hon.own (ownsRow_base hown5 (by omega)) hbn).alloc _
  · omega
  · have := heap_new (((((((w5.setCell ⟨w.heap.size, 0, none⟩ (.int .i64 0)).setCell ⟨w.heap.size, 1, none⟩ (.int .i64 0)).setCell ⟨w.heap.size, 2, none⟩ (.int .i64 0)).setCell ⟨w.heap.size, 3, none⟩ (.bool false)).setCell ⟨w.heap.size, 4, none⟩ (.int .i64 0)).setCell ⟨w.heap.size, 5, none⟩ (.slice none 0 0)).setCell ⟨w.heap.size, 6, none⟩ (.slice (some ⟨w5.heap.size, 0, none⟩) 1 1)) (.cells #[.int .i64 0, .int .i64 i, .slice sa k sc, .int .i64 0] 181)
    rw [hon.size] at this; exact this
set_option maxRecDepth 100000 in
set_option maxHeartbeats 1000000 in
theorem rvalue_deep (p tb : Nat) (c t : Tok) (ts : List Tok) (r : Tok) (rs : List Tok) (bv : BV) (ls : List (List UInt8 × Int)) (i : Int) (k : Nat) (w : World) (hG : Glob w) (h : PS w p tb (c :: t :: ts) bv) (hp13 : 13 ≤ p) (hlen : ls.length ≤ 1000000000) (hl : LocSl w bv.lc ls) (hlp : ∀ o n m, bv.lc ≠ .slice (some ⟨p, o, none⟩) n m) (hc : isIdx c opWords = 0) (hc1 : isIdx c [[38]] < 0) (hc2 : isIdx c unWords < 0) (hc3 : isIdx c biWords < 0) (hc4 : isIdx c [[40]] < 0) (hk : (t.k != 3) = false) (hi : idxN ls t.tx 0 = i) (hi0 : 0 ≤ i) (hd : Dots k ts (r :: rs)) (hr : isIdx r [[46]] < 0) (hk32 : 32 < k) :
    Calls Tryz.prog 100 #[.pointer (some ⟨p, 0, none⟩)] w fun e w' => e = FailV (dotPos 32 ts) 19 ∧ Fr p w w' := by
  have hp := h.plt
  have htb := h.tlt
  have hps0 : ∀ o, PS (w.alloc o) p tb (c :: t :: ts) bv := fun o => h.alloc o
  have HG0 : ∀ o, Hid (Glob (w.alloc o)) := fun o => hG.alloc o
  have hl0 : ∀ o, LocSl (w.alloc o) bv.lc ls := fun o => hl.below ((Below.refl _ _).alloc (Nat.le_refl _) o)
  have Hi := Lib.hid hi; clear hi
  have hlt := h.plt
  clear h hl hG
  go_enter Tryz.func100, Tryz.ntmps100
  go_wp2_with (first
    | (go_at_call 47; first
      | (have := HG3; refine (maybe_out p tb c _ bv _ [[40]] _ HG3.out hps3 paren_words (by decide) hc4).mono ?_; rintro e w4 ⟨rfl, hb4⟩; have hps4 := hps3.keep hb4; have HG4 : Hid (Glob w4) := HG3.out.below hb4; have hl4 := hl3.below hb4)
      | (refine (maybe_out p tb c _ bv _ [[38]] _ (HG0 _).out (hps0 _) amp_words (by decide) hc1).mono ?_; rintro e w1 ⟨rfl, hb1⟩; have hps1 := (hps0 _).keep hb1; have HG1 : Hid (Glob w1) := (HG0 _).out.below hb1; have hl1 := (hl0 _).below hb1))
    | (go_at_call 92; first
      | (have := HG2; refine (accept_out p tb c _ bv _ biWords _ HG2.out hps2 bi_words (by decide) hc3).mono ?_; rintro e w3 ⟨rfl, hb3⟩; have hps3 := hps2.keep hb3; have HG3 : Hid (Glob w3) := HG2.out.below hb3; have hl3 := hl2.below hb3)
      | (refine (accept_out p tb c _ bv _ unWords _ HG1.out hps1 un_words (by decide) hc2).mono ?_; rintro e w2 ⟨rfl, hb2⟩; have hps2 := hps1.keep hb2; have HG2 : Hid (Glob w2) := HG1.out.below hb2; have hl2 := hl1.below hb2))
    | (go_at_call 133; refine (operand_deep p tb c t ts r rs bv ls i k _ HG4.out hps4 hp13 hlen hl4 hlp hc hk Hi.out hi0 hd hr hk32).mono ?_; rintro e w5 ⟨rfl, hfr5⟩))
  exact ⟨rfl, rfl, (way5 hb1 hb2 hb3 hb4 hfr5 hp).1⟩
end Go.Proofs.YthpanohdfelkhaaGreatDoor
