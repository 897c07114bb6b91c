/- The parser's jump (return) and block on the three shapes that ParserDepth needs. The parser's state (PS) is given; of what lay in memory only the parser's own block changes. -/
import Derived.Test.YthpanohdfelkhaaGreatDoorPar7
namespace Go.Proofs.YthpanohdfelkhaaGreatDoor
open Go.RowKit
abbrev nilS : Value := .slice none 0 0
/-- the seven cells of a block whose terminator has a kind and nothing else -/
abbrev blkCells (st : Value) (k : Int) : Array Value := #[st, .int .i64 k, nilS, nilS, .int .i64 0, nilS, .string ⟨#[]⟩]
theorem box6 {w : World} {b : Nat} {x0 x1 x2 x3 x4 x5 : Value} {t : TypeId} (h : w.heap[b]? = some (.cells #[x0, x1, x2, x3, x4, x5] t (0, 0))) :
    w.cell? ⟨b, 0, none⟩ = some x0 ∧ w.cell? ⟨b, 1, none⟩ = some x1 ∧ w.cell? ⟨b, 2, none⟩ = some x2 ∧ w.cell? ⟨b, 3, none⟩ = some x3 ∧ w.cell? ⟨b, 4, none⟩ = some x4 ∧ w.cell? ⟨b, 5, none⟩ = some x5 :=
  ⟨by rw [cell_of_blk h]; rfl, by rw [cell_of_blk h]; rfl, by rw [cell_of_blk h]; rfl, by rw [cell_of_blk h]; rfl, by rw [cell_of_blk h]; rfl, by rw [cell_of_blk h]; rfl⟩
set_option maxRecDepth 100000 in
set_option maxHeartbeats 1000000 in
theorem jump_return (p : Nat) (w : World) :
    Calls Tryz.prog 97 #[.pointer (some ⟨p, 0, none⟩), .int .i64 2] w fun e w' => e = .returned (.agg #[.int .i64 2, nilS, nilS, .int .i64 0, nilS, .string ⟨#[]⟩]) ∧ Below w.heap.size w w' := by
  go_enter Tryz.func97, Tryz.ntmps97
  go_wp2_with fail
  refine bodyPost_ret (v := .agg #[.int .i64 2, nilS, nilS, .int .i64 0, nilS, .string ⟨#[]⟩]) (by simp [results, Tryz.results97, go_sem]) rfl ⟨rfl, ?_⟩
  exact ((Below.refl _ _).alloc (Nat.le_refl _) _).alloc (by simp) _
def jumpWords : List (List UInt8) := [[103, 111, 116, 111], [105, 102], [114, 101, 116, 117, 114, 110], [100, 114, 111, 112], [117, 110, 114, 101, 97, 99, 104, 97, 98, 108, 101]]
theorem jump_words : Words ⟨#[103, 111, 116, 111, 32, 105, 102, 32, 114, 101, 116, 117, 114, 110, 32, 100, 114, 111, 112, 32, 117, 110, 114, 101, 97, 99, 104, 97, 98, 108, 101]⟩ jumpWords := ⟨by decide, ascii_of (by decide), by decide +kernel⟩
def semiWords : List (List UInt8) := [[59], [125]]
theorem semi_words : Words ⟨#[59, 32, 125]⟩ semiWords := ⟨by decide, ascii_of (by decide), by decide +kernel⟩
theorem semi_each : ∀ x ∈ semiWords, Words ⟨x.toArray⟩ [x] := by
  intro x hx
  simp [semiWords] at hx
  rcases hx with rfl | rfl
  · exact ⟨by decide, ascii_of (by decide), by decide +kernel⟩
  · exact ⟨by decide, ascii_of (by decide), by decide +kernel⟩
theorem two_new0 (w : World) (o o' : Obj) : ((w.alloc o).alloc o').heap[w.heap.size]? = some o := (Below.heap_alloc _ _ _ (by simp)).trans (heap_new w o)
theorem two_new1 (w : World) (o o' : Obj) : ((w.alloc o).alloc o').heap[w.heap.size + 1]? = some o' := by have := heap_new (w.alloc o) o'; simpa using this
theorem sets6 {w : World} {b : Nat} {x0 x1 x2 x3 x4 x5 x6 : Value} {t : TypeId} (h : w.heap[b]? = some (.cells #[x0, x1, x2, x3, x4, x5, x6] t (0, 0))) (y1 y2 y3 y4 y5 y6 : Value) :
    ((((((w.setCell ⟨b, 1, none⟩ y1).setCell ⟨b, 2, none⟩ y2).setCell ⟨b, 3, none⟩ y3).setCell ⟨b, 4, none⟩ y4).setCell ⟨b, 5, none⟩ y5).setCell ⟨b, 6, none⟩ y6).heap[b]? = some (.cells #[x0, y1, y2, y3, y4, y5, y6] t (0, 0)) := by
  simp [World.setCell, Array.getElem?_modify, h]
theorem expect_ok (p tb : Nat) (ts0 rest : List Tok) (bv : BV) (s : ByteArray) (ws : List (List UInt8)) (w : World) (hG : Glob w) (h : PS w p tb ts0 bv) (hp13 : 13 ≤ p) (hw : Words s ws) (hl : ws.length < 1000) (hws : ∀ x ∈ ws, Words ⟨x.toArray⟩ [x]) (he : Ended ts0) (hr : expGo ws ts0 = .ok rest) :
    Calls Tryz.prog 45 #[.pointer (some ⟨p, 0, none⟩), .string s] w fun e w' => e = .returned (.tuple #[]) ∧ PS w' p tb rest bv ∧ Fr p w w' := by
  refine (expect_any p tb ts0 bv s ws w hG h hp13 hw hl hws he).mono ?_
  rw [hr]
  rintro e w' ⟨hfr, rfl, hps⟩
  exact ⟨rfl, hps, hfr⟩
set_option maxRecDepth 100000 in
set_option maxHeartbeats 1000000 in
/-- a block of no statements that returns -/
theorem block_return (p tb : Nat) (c : Tok) (ts rest : List Tok) (bv : BV) (w : World) (hG : Glob w) (h : PS w p tb (c :: ts) bv) (hp13 : 13 ≤ p) (hc : isIdx c jumpWords = 2) (hts : ts ≠ []) (he : Ended ts) (hr : expGo semiWords ts = .ok rest) :
    Calls Tryz.prog 56 #[.pointer (some ⟨p, 0, none⟩)] w fun e w' => e = .returned (.agg (blkCells nilS 2)) ∧ PS w' p tb rest bv ∧ Fr p w w' := by
  have hp := h.plt
  have htb := h.tlt
  have hps0 : ∀ o o', PS ((w.alloc o).alloc o') p tb (c :: ts) bv := fun o o' => (h.alloc o).alloc o'
  have HG0 : ∀ o o', Hid (Glob ((w.alloc o).alloc o')) := fun o o' => (hG.alloc o).alloc o'
  clear h hG
  go_enter Tryz.func56, Tryz.ntmps56
  go_wp2_with fail
  go_step3
  go_wp2_with fail
  go_step3
  go_wp2_with fail
  go_loopw [4, 5, 6] (fun _ _ _ wr => wr = (w.alloc (.cells (blkCells nilS 0) 80)).alloc (.cells (blkCells nilS 0) 80)) (fun _ _ _ _ => 0)
  case atStart => rfl
  case round =>
    subst hrel
    go_wp2_with (first
      | (go_at_call 92; refine (accept_in p tb c ts bv _ jumpWords 2 _ (HG0 _ _).out (hps0 _ _) jump_words (by decide) hc (by decide) hts).mono ?_; rintro e w1 ⟨rfl, hps1, hfr1⟩; have HG1 : Hid (Glob w1) := (HG0 _ _).out.fr hfr1 hp13)
      | (go_at_call 97; refine (jump_return p _).mono ?_; rintro e w2 ⟨rfl, hb2⟩; have hps2 := hps1.keep hb2; have HG2 : Hid (Glob w2) := HG1.out.below hb2; have hs1 := hfr1.size; have hs2 := hb2.size; simp only [World.size_alloc] at hs1; have hB0 := (hb2.block w.heap.size (by omega)).trans ((hfr1.block w.heap.size (by simp; omega) (by omega)).trans (two_new0 w _ _)); have hB1 := (hb2.block (w.heap.size + 1) (by omega)).trans ((hfr1.block (w.heap.size + 1) (by simp) (by omega)).trans (two_new1 w _ _)); obtain ⟨b0, b1, b2, b3, b4, b5, b6⟩ := box7 hB1; have hfz := frozen_of_blk hB1)
      | (go_at_call 45; refine (expect_ok p tb ts rest bv _ semiWords _ (Only.glob (b := w.heap.size + 1) (w := w2) (by ((repeat with_reducible apply Only.set); with_reducible exact Only.refl _ _)) HG2.out (by omega)) (Only.ps (b := w.heap.size + 1) (w := w2) (by ((repeat with_reducible apply Only.set); with_reducible exact Only.refl _ _)) hps2 (by omega) (by omega)) hp13 semi_words (by decide) semi_each he hr).mono ?_; rintro e w3 ⟨rfl, hps3, hfr3⟩; have hs3 := hfr3.size; have hon : Only (w.heap.size + 1) w2 _ := (((((((Only.refl (w.heap.size + 1) w2).set 1 (.int .i64 2)).set 2 nilS).set 3 nilS).set 4 (.int .i64 0)).set 5 nilS).set 6 (.string ⟨#[]⟩)); rw [hon.size] at hs3; have hC1 := (hfr3.block (w.heap.size + 1) (by rw [hon.size]; omega) (by omega)).trans (sets6 hB1 _ _ _ _ _ _); have hC0 := (hfr3.block w.heap.size (by rw [hon.size]; omega) (by omega)).trans ((hon.block w.heap.size (by omega)).trans hB0); obtain ⟨d0, d1, d2, d3, d4, d5, d6⟩ := box7 hC1; obtain ⟨e0, e1, e2, e3, e4, e5, e6⟩ := box7 hC0; have gz := frozen_of_blk hC1; have kz := frozen_of_blk hC0; have hfr4 := hfr3; have hfr5 := Fr.trans (hon.fr (((((Fr.refl p w).alloc _).alloc _).trans hfr1).trans (Fr.of_below hb2)) (.inl (by omega))) hfr4; clear hfr3 hfr4 b0 b1 b2 b3 b4 b5 b6 hfz hB1 hB0))
    rw [Exit.noGoto_ret]
    have hon3 : Only w.heap.size w3 _ := ((((((((Only.refl w.heap.size w3).set 0 nilS).set 1 (.int .i64 2)).set 2 nilS).set 3 nilS).set 4 (.int .i64 0)).set 5 nilS).set 6 (.string ⟨#[]⟩))
    refine bodyPost_ret (v := .agg (blkCells nilS 2)) (by simp [results, Tryz.results56, go_sem, e0, e1, e2, e3, e4, e5, e6]) rfl ⟨rfl, ?_, ?_⟩
    · exact hon3.ps hps3 (by omega) (by omega)
    · exact hon3.fr hfr5 (.inl (by omega))
end Go.Proofs.YthpanohdfelkhaaGreatDoor
