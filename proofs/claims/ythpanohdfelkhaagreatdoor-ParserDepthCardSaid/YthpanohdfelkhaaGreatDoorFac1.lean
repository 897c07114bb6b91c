/- The parser's table of facts on the chapter's example 'facts @f { }'. -/
import Derived.Test.YthpanohdfelkhaaGreatDoorParse2
namespace Go.Proofs.YthpanohdfelkhaaGreatDoor
open Go.RowKit
theorem facts_words : Words ⟨#[102, 97, 99, 116, 115]⟩ [[102, 97, 99, 116, 115]] := ⟨by decide, ascii_of (by decide), by decide +kernel⟩
theorem loan_words : Words ⟨#[108, 111, 97, 110]⟩ [[108, 111, 97, 110]] := ⟨by decide, ascii_of (by decide), by decide +kernel⟩
theorem edge_words : Words ⟨#[101, 100, 103, 101]⟩ [[101, 100, 103, 101]] := ⟨by decide, ascii_of (by decide), by decide +kernel⟩
theorem killed_words : Words ⟨#[107, 105, 108, 108, 101, 100]⟩ [[107, 105, 108, 108, 101, 100]] := ⟨by decide, ascii_of (by decide), by decide +kernel⟩
theorem invalid_words : Words ⟨#[105, 110, 118, 97, 108, 105, 100]⟩ [[105, 110, 118, 97, 108, 105, 100]] := ⟨by decide, ascii_of (by decide), by decide +kernel⟩
theorem live_words : Words ⟨#[108, 105, 118, 101]⟩ [[108, 105, 118, 101]] := ⟨by decide, ascii_of (by decide), by decide +kernel⟩
def tFacts : Tok := ⟨1, [102, 97, 99, 116, 115], 0, 0⟩
def toksF : List Tok := [tFacts, ⟨5, [102], 0, 6⟩, tOpen 9, tClose 11, tEnd 12]
abbrev bvB (g c : Nat) : BV := ⟨vF, nilS, nilS, nilS, nilS, .int .i64 0, .slice (some ⟨g, 0, none⟩) 1 c⟩
set_option maxRecDepth 100000 in
set_option maxHeartbeats 1000000 in
theorem known_name (p tb pb : Nat) (toks : List Tok) (g c : Nat) (w : World) (h : PS w p tb toks (bvB g c)) (hpb : w.cell? ⟨pb, 0, none⟩ = some (.pointer (some ⟨p, 0, none⟩))) :
    Calls Tryz.prog 75 #[.string ⟨#[102]⟩, .pointer (some ⟨pb, 0, none⟩)] w fun r w' => r = .returned (.int .i64 0) ∧ Below w.heap.size w w' := by
  have hp := h.plt
  have hpl := block_of_cell hpb
  have hc1 : w.cell? ⟨p, 1, none⟩ = some vF := by
    obtain ⟨ao, c, h⟩ := h
    rw [cell_of_blk h.blk]; rfl
  clear h
  go_enter Tryz.func75, Tryz.ntmps75
  go_wp2_with fail
  refine (index_c w.heap.size 1 1 [[102]] [102] 0 (w.alloc (.cells #[.string ⟨#[102]⟩] 9)) rfl (by decide) (heap_new w (.cells #[.string ⟨#[102]⟩] 9)) (by decide)).mono ?_
  rintro e w1 ⟨rfl, rfl⟩
  go_wp2_with fail
  go_ret
  exact ⟨rfl, (Below.refl _ _).alloc (Nat.le_refl _) _⟩
set_option maxRecDepth 100000 in
set_option maxHeartbeats 1000000 in
theorem named_name (p tb pb : Nat) (ts : List Tok) (q : Int) (g c : Nat) (w : World) (h : PS w p tb (⟨5, [102], 0, q⟩ :: ts) (bvB g c)) (hpb : w.cell? ⟨pb, 0, none⟩ = some (.pointer (some ⟨p, 0, none⟩))) (hts : ts ≠ []) :
    Calls Tryz.prog 74 #[.pointer (some ⟨p, 0, none⟩), .int .i64 5, .func (.func 75) #[] #[.pointer (some ⟨pb, 0, none⟩)]] w fun r w' => r = .returned (.int .i64 0) ∧ PS w' p tb ts (bvB g c) ∧ Fr p w w' := by
  have hpl := block_of_cell hpb
  have hf1 := tok_f1
  go_enter Tryz.func74, Tryz.ntmps74
  go_wp2_with (first | (go_at_call 90; refine (kind_yes p tb _ ts _ 5 _ h (by rfl)).mono ?_; rintro e w1 ⟨rfl, hb1⟩; have hps1 := h.keep hb1; have hpb1 := (hb1.cell (p := ⟨pb, 0, none⟩) hpl).trans hpb) | (go_at_call 75; refine (known_name p tb pb _ g c _ hps1 hpb1).mono ?_; rintro e w2 ⟨rfl, hb2⟩; have hps2 := hps1.keep hb2) | (go_at_call 91; refine (next_c p tb _ ts _ _ hps2 (by rfl) hts).mono ?_; rintro e w3 ⟨rfl, hps3, hfr⟩))
  go_ret
  exact ⟨rfl, hps3, (Fr.of_below hb1).trans ((Fr.of_below hb2).trans hfr)⟩
set_option maxRecDepth 100000 in
set_option maxHeartbeats 1000000 in
theorem pairs_none (p tb : Nat) (t : Tok) (ts : List Tok) (bv : BV) (s : ByteArray) (ws : List (List UInt8)) (w : World) (hG : Glob w) (h : PS w p tb (t :: ts) bv) (hw : Words s ws) (hl : ws.length < 1000) (hi : isIdx t ws < 0) :
    Calls Tryz.prog 79 #[.pointer (some ⟨p, 0, none⟩), .string s] w fun r w' => r = .returned nilS ∧ Below w.heap.size w w' := by
  go_enter Tryz.func79, Tryz.ntmps79
  go_wp2_with fail
  refine wp_loop_rounds 1 ?_
  rw [rounds_succ]
  go_wp2_with (go_at_call 47; refine (maybe_out p tb t ts bv s ws _ hG h hw hl hi).mono ?_; rintro e w1 ⟨rfl, hb1⟩)
  go_ret
  exact ⟨rfl, hb1⟩
theorem cell_set {w : World} {b o c i : Nat} {u v : Value} (h : w.cell? ⟨b, o, none⟩ = some v) (hne : b ≠ c) : (w.setCell ⟨c, i, none⟩ u).cell? ⟨b, o, none⟩ = some v :=
  (World.cell?_of_block (a := ⟨b, o, none⟩) (((Only.refl c w).set i u).block b hne)).trans h
theorem endF0 : Ended [tEnd 12] := by simp [Ended, tEnd]
theorem endF1 : Ended [tClose 11, tEnd 12] := endF0.cons'
theorem endF2 : Ended [tOpen 9, tClose 11, tEnd 12] := endF1.cons'
theorem endF4 : Ended toksF := (endF2.cons' (t := ⟨5, [102], 0, 6⟩)).cons'
set_option maxRecDepth 100000 in
set_option maxHeartbeats 2000000 in
theorem table_c (p tb g c : Nat) (w : World) (hG : Glob w) (h : PS w p tb toksF (bvB g c)) (hp13 : 13 ≤ p) :
    Calls Tryz.prog 35 #[.pointer (some ⟨p, 0, none⟩)] w fun e w' => e = .returned (.agg #[nilS, nilS, nilS, nilS, nilS]) ∧ Fr p w w' := by
  have S0 := At.start h hG hp13
  have hp := h.plt
  have htb := h.tlt
  have hmf : ∀ (fn : Fn) (first cap : Array Value) (w : World), (Instr.makeFunc fn first cap).run Tryz.prog w = .ok (.func fn first cap) w := fun _ _ _ _ => rfl
  have S0a := fun a => Lib.hid (S0.below ((Below.refl _ _).alloc (Nat.le_refl _) a))
  have S0b := fun a b => Lib.hid ((S0a a).out.below ((Below.refl _ _).alloc (Nat.le_refl _) b))
  have hF3 := three_new' w (.cells #[.pointer (some ⟨p, 0, none⟩)] 56) (.cells #[nilS, nilS, nilS, nilS, nilS] 49) (.cells #[nilS, nilS, nilS, nilS, nilS] 49)
  have HF := Lib.hid hF3
  clear S0 S0a hF3
  go_enter Tryz.func35, Tryz.ntmps35
  go_wp2_with (first
    | (go_at_call 45; first
      | (have := S2; refine (expect_ok p tb _ [tClose 11, tEnd 12] _ _ [[123]] _ S2.gl S2.ps hp13 open_words (by decide) (one_each open_words) endF2 (expGo1 (by decide))).mono ?_; rintro e w3 ⟨rfl, hps, hfr⟩; have S3 := S2.step hps hfr; have c3 := S3.c; have f3 := hfr.at f2 (by omega); have r3 := hfr.at r2 (by omega))
      | (refine (expect_ok p tb _ [⟨5, [102], 0, 6⟩, tOpen 9, tClose 11, tEnd 12] _ _ [[102, 97, 99, 116, 115]] _ (S0b _ _).out.gl (S0b _ _).out.ps hp13 facts_words (by decide) (one_each facts_words) endF4 (expGo1 (by decide))).mono ?_; rintro e w1 ⟨rfl, hps, hfr⟩; have S1 := (S0b _ _).out.step hps hfr; have c1 := S1.c; have f1 := hfr.at HF.out.2.2 (by omega); have r1 := hfr.at HF.out.2.1 (by omega)))
    | (go_at_call 74; refine (named_name p tb w.heap.size _ 6 g c _ S1.ps c1 (by simp)).mono ?_; rintro e w2 ⟨rfl, hps, hfr⟩; have S2 := S1.step hps hfr; have c2 := S2.c; have f2 := hfr.at f1 (by omega); have r2 := hfr.at r1 (by omega)))
  clear S1 S2 c1 c2 f1 f2 r1 r2 S0b HF
  refine wp_loop_rounds 1 ?_
  rw [rounds_succ]
  go_wp2_with (go_at_call 47; refine (maybe_out p tb (tClose 11) [tEnd 12] _ _ [[108, 111, 97, 110]] _ S3.gl S3.ps loan_words (by decide) (by decide)).mono ?_; rintro e w4 ⟨rfl, hb⟩; have S4 := S3.below hb; have c4 := S4.c; have f4 := kept hb f3; have r4 := kept hb r3; obtain ⟨x0, x1, x2, x3, x4⟩ := box5 f4; have hz4 := lt_of_blk f4)
  clear S3 c3 f3 r3
  go_region_held3 (fun w' => w'.cell? ⟨w.heap.size, 0, none⟩ = some (.pointer (some ⟨p, 0, none⟩))) (first | assumption | (refine cell_set ?_ (by omega); assumption) | (refine cell_set (cell_set ?_ (by omega)) (by omega); assumption) | (refine cell_set (cell_set (cell_set ?_ (by omega)) (by omega)) (by omega); assumption) | go_keep) (first
    | (go_at_call 79; first
      | (have := S6; refine (pairs_none p tb (tClose 11) [tEnd 12] _ _ [[105, 110, 118, 97, 108, 105, 100]] _ S6.gl S6.ps invalid_words (by decide) (by decide)).mono ?_; rintro e w7 ⟨rfl, hb⟩; have S7 := S6.below hb; have c7 := S7.c; have f7 := kept hb f6; have r7 := kept hb r6; obtain ⟨y0, y1, y2, y3, y4⟩ := box5 f7; have z7 := frozen_of_blk f7; have hz7 := lt_of_blk f7)
      | (have := S5; refine (pairs_none p tb (tClose 11) [tEnd 12] _ _ [[107, 105, 108, 108, 101, 100]] _ S5.gl S5.ps killed_words (by decide) (by decide)).mono ?_; rintro e w6 ⟨rfl, hb⟩; have S6 := S5.below hb; have c6 := S6.c; have f6 := kept hb f5; have r6 := kept hb r5)
      | (refine (pairs_none p tb (tClose 11) [tEnd 12] _ _ [[101, 100, 103, 101]] _ S4.drew.gl S4.drew.ps edge_words (by decide) (by decide)).mono ?_; rintro e w5 ⟨rfl, hb⟩; have S5 := S4.drew.below hb; have c5 := S5.c; have f5 := kept hb (show w4.drew.heap[w.heap.size + 1 + 1]? = _ from f4); have r5 := kept hb (show w4.drew.heap[w.heap.size + 1]? = _ from r4))))
  have hon : Only (w.heap.size + 1 + 1) w7 (((w7.setCell ⟨w.heap.size + 1 + 1, 1, none⟩ (.slice none 0 0)).setCell ⟨w.heap.size + 1 + 1, 2, none⟩ (.slice none 0 0)).setCell ⟨w.heap.size + 1 + 1, 3, none⟩ (.slice none 0 0)) := (((Only.refl _ _).set 1 _).set 2 _).set 3 _
  have f8 : (((w7.setCell ⟨w.heap.size + 1 + 1, 1, none⟩ (.slice none 0 0)).setCell ⟨w.heap.size + 1 + 1, 2, none⟩ (.slice none 0 0)).setCell ⟨w.heap.size + 1 + 1, 3, none⟩ (.slice none 0 0)).heap[w.heap.size + 1 + 1]? = some (.cells #[nilS, nilS, nilS, nilS, nilS] 49 (0, 0)) := by rw [setBlk _ _ _ _ _ _ _ (setBlk _ _ _ _ _ _ _ (setBlk _ _ _ _ _ _ _ f7))]; rfl
  have r8 := (hon.block (w.heap.size + 1) (by omega)).trans r7
  have S8 : At w p tb [tClose 11, tEnd 12] (bvB g c) (((w7.setCell ⟨w.heap.size + 1 + 1, 1, none⟩ (.slice none 0 0)).setCell ⟨w.heap.size + 1 + 1, 2, none⟩ (.slice none 0 0)).setCell ⟨w.heap.size + 1 + 1, 3, none⟩ (.slice none 0 0)) := ⟨hon.ps S7.ps (by omega) (by omega), hon.fr S7.fr (.inl (by omega)), (hon.block w.heap.size (by omega)).trans S7.bx, hon.glob S7.gl (by omega), hp, htb, hp13⟩
  clear S4 S5 S6 S7 c4 c5 c6 c7 f4 f5 f6 f7 r4 r5 r6 r7 x0 x1 x2 x3 x4 y0 y1 y2 y3 y4 z7 hz4 hz7
  generalize (((w7.setCell ⟨w.heap.size + 1 + 1, 1, none⟩ (.slice none 0 0)).setCell ⟨w.heap.size + 1 + 1, 2, none⟩ (.slice none 0 0)).setCell ⟨w.heap.size + 1 + 1, 3, none⟩ (.slice none 0 0)) = w8 at hon f8 r8 S8 ⊢
  have c8 := S8.c
  go_wp2_with fail
  refine wp_loop_rounds 1 ?_
  rw [rounds_succ]
  go_wp2_with (first
    | (go_at_call 47; refine (maybe_out p tb (tClose 11) [tEnd 12] _ _ [[108, 105, 118, 101]] _ S8.gl S8.ps live_words (by decide) (by decide)).mono ?_; rintro e w9 ⟨rfl, hb⟩; have S9 := S8.below hb; have c9 := S9.c; have f9 := kept hb f8; have r9 := kept hb r8)
    | (go_at_call 45; refine (expect_ok p tb _ [tEnd 12] _ _ [[125]] _ S9.gl S9.ps hp13 close_words (by decide) (one_each close_words) endF1 (expGo1 (by decide))).mono ?_; rintro e w10 ⟨rfl, hps, hfr⟩; have S10 := S9.step hps hfr; have c10 := S10.c; have f10 := hfr.at f9 (by omega); have r10 := hfr.at r9 (by omega))
    | (go_at_call 46; refine (take_end p tb (tEnd 12) _ _ _ S10.ps (by rfl)).mono ?_; rintro e w11 ⟨rfl, hb⟩; have S11 := S10.below hb; have f11 := kept hb f10; have r11 := kept hb r10; obtain ⟨y0, y1, y2, y3, y4⟩ := box5 f11; obtain ⟨v0, v1, v2, v3, v4⟩ := box5 r11; have z11 := frozen_of_blk r11; have hz11 := lt_of_blk r11))
  have hon2 : Only (w.heap.size + 1) w11 _ := (((((Only.refl (w.heap.size + 1) w11).set 0 nilS).set 1 nilS).set 2 nilS).set 3 nilS).set 4 nilS
  refine bodyPost_ret (v := .agg #[nilS, nilS, nilS, nilS, nilS]) (by simp [results, Tryz.results35, go_sem, v0, v1, v2, v3, v4]) rfl ⟨rfl, hon2.fr S11.fr (.inl (by omega))⟩
end Go.Proofs.YthpanohdfelkhaaGreatDoor
