/- The parser's run: the closure that recovers (two contracts: of a frame that panics with a failure, of a frame that returns). -/
import Derived.Test.YthpanohdfelkhaaGreatDoorPar15
import Derived.Defers
import Derived.Recover
namespace Go.Proofs.YthpanohdfelkhaaGreatDoor
open Go.RowKit
set_option maxRecDepth 100000 in
set_option maxHeartbeats 1000000 in
theorem catch_panicking (a e : Nat) (x y : Value) (at_ c : Int) (older : List PanicEntry) (w : World) (ha : w.heap[a]? = some (.cells #[x] 3 (0, 0))) (he : w.heap[e]? = some (.cells #[y] 39 (0, 0))) (hne : a ≠ e) :
    CallsD Tryz.prog 44 #[.pointer (some ⟨a, 0, none⟩), .pointer (some ⟨e, 0, none⟩)] (.panicking ({ v := .iface 107 (.agg #[.int .i64 at_, .int .i64 c]), recovered := false } :: older)) w fun r u' w' =>
      r = .returned (.tuple #[]) ∧ u' = .panicking ({ v := .iface 107 (.agg #[.int .i64 at_, .int .i64 c]), recovered := true } :: older) ∧ w' = (((w.setCell ⟨a, 0, none⟩ (.int .i64 at_)).setCell ⟨e, 0, none⟩ (.int .i64 c)).alloc (.cells #[.int .i64 at_, .int .i64 c] 107)).drew := by
  refine callsD_of_wpS Tryz.func44 rfl fun c₀ cs hu => ?_
  apply wpS_seq
  apply wpS_region
  simp [wpOpsS, go_sem, recoverD, hu, Tryz.ntmps44, Exit.thenS]
  have hca := cell_of_blk ha 0
  have hce := cell_of_blk he 0
  have hfa := frozen_of_blk ha 0
  have hfe := frozen_of_blk he 0
  simp only [List.getElem?_toArray, List.getElem?_cons_zero] at hca hce
  have hla := lt_of_blk ha
  have hle := lt_of_blk he
  have hta : ∀ w : World, (Instr.typeAssert (.iface 107 (.agg #[.int .i64 at_, .int .i64 c])) 20 107 true).run Tryz.prog w = .ok (.tuple #[.agg #[.int .i64 at_, .int .i64 c], .bool true]) w := fun w => by kernel_rfl
  refine wpS_of_wp ?_
  simp only [Array.replicate_succ, Array.replicate_zero, List.push_toArray, List.append_toArray, List.setIfInBounds_toArray, List.nil_append, List.cons_append, List.set_cons_zero, List.set_cons_succ]
  go_wp2_with fail
  go_region_with (fail)
  all_goals go_wp2_with fail
  all_goals simp [bodyPostS, results, Tryz.results44]
set_option maxRecDepth 100000 in
set_option maxHeartbeats 1000000 in
theorem catch_idle (a e : Nat) (w : World) :
    CallsD Tryz.prog 44 #[.pointer (some ⟨a, 0, none⟩), .pointer (some ⟨e, 0, none⟩)] .returning w fun r u' w' => r = .returned (.tuple #[]) ∧ u' = .returning ∧ w' = w := by
  refine callsD_of_wpS Tryz.func44 rfl fun c₀ cs hu => ?_
  apply wpS_seq
  apply wpS_region
  simp [wpOpsS, go_sem, recoverD, hu, Tryz.ntmps44, Exit.thenS]
  refine wpS_of_wp ?_
  simp only [Array.replicate_succ, Array.replicate_zero, List.push_toArray, List.append_toArray, List.setIfInBounds_toArray, List.nil_append, List.cons_append, List.set_cons_zero, List.set_cons_succ]
  go_wp2_with fail
  cases c₀
  simp_all [bodyPostS, results, Tryz.results44]
end Go.Proofs.YthpanohdfelkhaaGreatDoor
/- The parser's run over (*parser).all: where all returns, and where it panics with a failure. Texts that the lexer takes. -/
namespace Go.Proofs.YthpanohdfelkhaaGreatDoor
open Go.RowKit
abbrev body00 : Value := .agg #[.string ⟨#[]⟩, nilS, nilS, nilS, nilS, .int .i64 0, nilS]
theorem lex_is (s : ByteArray) (toks : List Tok) (w : World) (hG : Glob w) (hs : s.size ≤ 1000000) (h : Lx.lex s.data.toList = .ok toks) :
    Calls Tryz.prog 43 #[.string s] w fun e w' => ∃ g cap, e = .returned (.tuple #[.slice (some ⟨g, 0, none⟩) toks.length cap, .int .i64 s.size, .int .i64 0]) ∧ Below w.heap.size w w' ∧ w.heap.size ≤ g ∧ g < w'.heap.size ∧ toks.length ≤ cap ∧ ToksAt w' g 0 toks := by
  refine (lex_any s w hG hs).mono ?_
  rw [h]
  rintro e w' ⟨hb, g, cap, h1, h2, h3, h4, h5⟩
  exact ⟨g, cap, h1, hb, h2, h3, h4, h5⟩
theorem three_new (w : World) (o o' o'' : Obj) : (((w.alloc o).alloc o').alloc o'').heap[w.heap.size]? = some o ∧ (((w.alloc o).alloc o').alloc o'').heap[w.heap.size + 1]? = some o' ∧ (((w.alloc o).alloc o').alloc o'').heap[w.heap.size + 1 + 1]? = some o'' := by
  refine ⟨?_, ?_, ?_⟩
  · rw [Below.heap_alloc _ _ _ (by simp only [World.size_alloc]; omega)]; exact two_new0 w o o'
  · rw [Below.heap_alloc _ _ _ (by simp only [World.size_alloc]; omega)]; exact two_new1 w o o'
  · have := two_new1 (w.alloc o) o' o''; simpa using this
theorem cell1 {w : World} {b : Nat} {x : Value} {t : TypeId} (h : w.heap[b]? = some (.cells #[x] t (0, 0))) : w.cell? ⟨b, 0, none⟩ = some x := by rw [cell_of_blk h]; rfl
/-- two worlds that agree from block p on -/
def Same (p : Nat) (W w' : World) : Prop := (∀ k, p ≤ k → w'.heap[k]? = W.heap[k]?) ∧ w'.heap.size = W.heap.size
theorem set1 {w : World} {b : Nat} {x : Value} {t : TypeId} (h : w.heap[b]? = some (.cells #[x] t (0, 0))) (y : Value) : (w.setCell ⟨b, 0, none⟩ y).heap[b]? = some (.cells #[y] t (0, 0)) := by rw [setBlk _ _ _ _ _ _ _ h]; simp
theorem Fr.below {p base : Nat} {w W w2 : World} (h : Fr p W w2) (hb : Below base w W) (hp : base ≤ p) (hbs : base ≤ w.heap.size) : Below base w w2 :=
  ⟨h.os.trans hb.os, h.tape.trans hb.tape, h.output.trans hb.output, Nat.le_trans hb.size h.size, fun k hk => (h.block k (by have := hb.size; omega) (by omega)).trans (hb.block k hk)⟩
theorem ps_new {w1 : World} {g cap : Nat} {toks : List Tok} (htk : ToksAt w1 g 0 toks) (hg : g < w1.heap.size) (hcap : toks.length ≤ cap) (W0 : World) (hW : W0.heap.size = w1.heap.size) (hb : W0.heap[g]? = w1.heap[g]?) :
    PS (W0.alloc (.cells #[.slice (some ⟨g, 0, none⟩) toks.length cap, .string ⟨#[]⟩, nilS, nilS, nilS, nilS, .int .i64 0, nilS] 63)) w1.heap.size g toks bv00 :=
  ⟨0, cap, ⟨by rw [← hW]; exact heap_new _ _, hcap, by omega, by simp only [World.size_alloc]; omega, (htk.keep hb).keep (Below.heap_alloc _ _ _ (by omega))⟩⟩
set_option maxRecDepth 100000 in
set_option maxHeartbeats 1000000 in
theorem run_good (s : ByteArray) (toks : List Tok) (Q : World → Nat → Nat → World → Prop) (w : World) (hG : Glob w) (hs : s.size ≤ 1000000) (hlex : Lx.lex s.data.toList = .ok toks)
    (hall : ∀ (W : World) (p tb : Nat), Glob W → PS W p tb toks bv00 → 13 ≤ p → Calls Tryz.prog 21 #[.pointer (some ⟨p, 0, none⟩)] W fun e w' => e = .returned (.tuple #[]) ∧ Fr p W w' ∧ Q W p tb w') :
    Calls Tryz.prog 20 #[.string s, body00, .func (.func 21) #[] #[]] w fun e w' => ∃ p tb W W', e = .returned (.tuple #[.pointer (some ⟨p, 0, none⟩), .int .i64 s.size, .int .i64 0]) ∧ Below w.heap.size w w' ∧ w.heap.size ≤ p ∧ p < W.heap.size ∧ Same p W' w' ∧ Q W p tb W' := by
  have hmf : ∀ (fn : Fn) (first cap : Array Value) (w : World), (Instr.makeFunc fn first cap).run Tryz.prog w = .ok (.func fn first cap) w := fun _ _ _ _ => rfl
  have Hlex := Lib.hid hlex; clear hlex
  have Hall := Lib.hid hall; clear hall
  have HG : ∀ o o' o'', Hid (Glob (((w.alloc o).alloc o').alloc o'')) := fun o o' o'' => ((hG.alloc o).alloc o').alloc o''
  go_enter_defers Tryz.func20, Tryz.ntmps20
  go_wp2_with (first
    | (go_at_call 43; refine (lex_is s toks _ (HG _ _ _).out hs Hlex.out).mono ?_; rintro e w1 ⟨g, cap, rfl, hb1, hg1, hg2, hcap, htk⟩; have hs1 := hb1.size; simp only [World.size_alloc] at hs1 hg1; obtain ⟨n0, n1, n2⟩ := three_new w (.cells #[.string ⟨#[]⟩, nilS, nilS, nilS, nilS, .int .i64 0, nilS] 38) (.cells #[.int .i64 0] 3) (.cells #[.int .i64 0] 39); have m0 := (hb1.block w.heap.size (by simp only [World.size_alloc]; omega)).trans n0; have m1 := (hb1.block (w.heap.size + 1) (by simp only [World.size_alloc]; omega)).trans n1; have m2 := (hb1.block (w.heap.size + 1 + 1) (by simp only [World.size_alloc]; omega)).trans n2; clear n0 n1 n2; obtain ⟨b0, b1, b2, b3, b4, b5, b6⟩ := box7 m0; have a0 := cell1 m1; have e0 := cell1 m2; have z0 := frozen_of_blk m0; have z1 := frozen_of_blk m1; have z2 := frozen_of_blk m2; have hszl := hb1.size)
    | (go_at_call 21; have hon1 : Only (w.heap.size + 1) w1 (w1.setCell ⟨w.heap.size + 1, 0, none⟩ (.int .i64 s.size)) := (Only.refl _ _).set 0 _; have hon2 : Only (w.heap.size + 1 + 1) (w1.setCell ⟨w.heap.size + 1, 0, none⟩ (.int .i64 s.size)) ((w1.setCell ⟨w.heap.size + 1, 0, none⟩ (.int .i64 s.size)).setCell ⟨w.heap.size + 1 + 1, 0, none⟩ (.int .i64 0)) := (Only.refl _ _).set 0 _; have hG1 := (((HG _ _ _).out.below hb1)); have hlo := hG.sz; refine (Hall.out _ w1.heap.size g ((hon2.glob (hon1.glob hG1 (by omega)) (by omega)).alloc _) (ps_new htk hg2 hcap _ (by rw [hon2.size, hon1.size]) ((hon2.block g (by omega)).trans (hon1.block g (by omega)))) (by omega)).mono ?_; rintro e w2 ⟨rfl, hfr, hQ⟩; have hs2 := hfr.size; simp only [World.size_alloc, hon2.size, hon1.size] at hs2; have k1 := hfr.at ((Below.heap_alloc _ _ _ (by rw [hon2.size, hon1.size]; omega)).trans ((hon2.block (w.heap.size + 1) (by omega)).trans (set1 m1 _))) (by omega); have k2 := hfr.at ((Below.heap_alloc _ _ _ (by rw [hon2.size, hon1.size]; omega)).trans (set1 ((hon1.block (w.heap.size + 1 + 1) (by omega)).trans m2) (.int .i64 0))) (by omega); have hbl : Hid (Below w.heap.size w w2) := hfr.below ((hon2.below (hon1.below (((((Below.refl _ _).alloc (Nat.le_refl _) _).alloc (by simp) _).alloc (by simp; omega) _).trans (hb1.mono (by simp; omega))) (by omega)) (by omega)).alloc (by rw [hon2.size, hon1.size]; omega) _) (by omega) (Nat.le_refl _); have HQ := Lib.hid hQ; clear hQ hfr hon1 hon2 m0 m1 m2 a0 e0 z0 z1 z2 b0 b1 b2 b3 b4 b5 b6 hszl hb1; have a0 := cell1 k1; have e0 := cell1 k2; have z1 := frozen_of_blk k1; have z2 := frozen_of_blk k2))
  refine leaves_cons (f := 44) (args := #[.pointer (some ⟨w.heap.size + 1, 0, none⟩), .pointer (some ⟨w.heap.size + 1 + 1, 0, none⟩)]) (by simp) (by simp [go_sem]) ?_
  refine (catch_idle _ _ _).mono ?_
  rintro e u' w'' ⟨rfl, rfl, rfl⟩
  have hon1 : Only (w.heap.size + 1) w2 (w2.setCell ⟨w.heap.size + 1, 0, none⟩ (.int .i64 s.size)) := (Only.refl _ _).set 0 _
  have hon2 : Only (w.heap.size + 1 + 1) (w2.setCell ⟨w.heap.size + 1, 0, none⟩ (.int .i64 s.size)) ((w2.setCell ⟨w.heap.size + 1, 0, none⟩ (.int .i64 s.size)).setCell ⟨w.heap.size + 1 + 1, 0, none⟩ (.int .i64 0)) := (Only.refl _ _).set 0 _
  have hB := hon2.below (hon1.below hbl.out (by omega)) (by omega)
  refine ⟨.tuple #[.pointer (some ⟨w1.heap.size, 0, none⟩), .int .i64 s.size, .int .i64 0], ?_, w1.heap.size, g, _, w2, rfl, hB, by omega, ?_, ?_, HQ.out⟩
  · simp [results, Tryz.results20, go_sem, a0, e0]
  · simp [World.setCell]
  · exact ⟨fun k hk => (hon2.block k (by omega)).trans (hon1.block k (by omega)), by rw [hon2.size, hon1.size]⟩
end Go.Proofs.YthpanohdfelkhaaGreatDoor
/- The parser's run over (*parser).all: where all panics with a failure. Texts that the lexer takes. -/
namespace Go.Proofs.YthpanohdfelkhaaGreatDoor
open Go.RowKit
set_option maxRecDepth 100000 in
set_option maxHeartbeats 1000000 in
theorem run_bad (s : ByteArray) (toks : List Tok) (at_ c : Int) (w : World) (hG : Glob w) (hs : s.size ≤ 1000000) (hlex : Lx.lex s.data.toList = .ok toks)
    (hall : ∀ (W : World) (p tb : Nat), Glob W → PS W p tb toks bv00 → 13 ≤ p → Calls Tryz.prog 21 #[.pointer (some ⟨p, 0, none⟩)] W fun e w' => e = FailV at_ c ∧ Fr p W w') :
    Calls Tryz.prog 20 #[.string s, body00, .func (.func 21) #[] #[]] w fun e w' => ∃ p, e = .returned (.tuple #[.pointer (some ⟨p, 0, none⟩), .int .i64 at_, .int .i64 c]) ∧ Below w.heap.size w w' := by
  have hmf : ∀ (fn : Fn) (first cap : Array Value) (w : World), (Instr.makeFunc fn first cap).run Tryz.prog w = .ok (.func fn first cap) w := fun _ _ _ _ => rfl
  have Hlex := Lib.hid hlex; clear hlex
  have Hall := Lib.hid hall; clear hall
  have HG : ∀ o o' o'', Hid (Glob (((w.alloc o).alloc o').alloc o'')) := fun o o' o'' => ((hG.alloc o).alloc o').alloc o''
  go_enter_defers Tryz.func20, Tryz.ntmps20
  go_wp2_with (first
    | (go_at_call 43; refine (lex_is s toks _ (HG _ _ _).out hs Hlex.out).mono ?_; rintro e w1 ⟨g, cap, rfl, hb1, hg1, hg2, hcap, htk⟩; have hs1 := hb1.size; simp only [World.size_alloc] at hs1 hg1; obtain ⟨n0, n1, n2⟩ := three_new w (.cells #[.string ⟨#[]⟩, nilS, nilS, nilS, nilS, .int .i64 0, nilS] 38) (.cells #[.int .i64 0] 3) (.cells #[.int .i64 0] 39); have m0 := (hb1.block w.heap.size (by simp only [World.size_alloc]; omega)).trans n0; have m1 := (hb1.block (w.heap.size + 1) (by simp only [World.size_alloc]; omega)).trans n1; have m2 := (hb1.block (w.heap.size + 1 + 1) (by simp only [World.size_alloc]; omega)).trans n2; clear n0 n1 n2; obtain ⟨b0, b1, b2, b3, b4, b5, b6⟩ := box7 m0; have a0 := cell1 m1; have e0 := cell1 m2; have z0 := frozen_of_blk m0; have z1 := frozen_of_blk m1; have z2 := frozen_of_blk m2; have hszl := hb1.size)
    | (go_at_call 21; have hon1 : Only (w.heap.size + 1) w1 (w1.setCell ⟨w.heap.size + 1, 0, none⟩ (.int .i64 s.size)) := (Only.refl _ _).set 0 _; have hon2 : Only (w.heap.size + 1 + 1) (w1.setCell ⟨w.heap.size + 1, 0, none⟩ (.int .i64 s.size)) ((w1.setCell ⟨w.heap.size + 1, 0, none⟩ (.int .i64 s.size)).setCell ⟨w.heap.size + 1 + 1, 0, none⟩ (.int .i64 0)) := (Only.refl _ _).set 0 _; have hG1 := (((HG _ _ _).out.below hb1)); have hlo := hG.sz; refine (Hall.out _ w1.heap.size g ((hon2.glob (hon1.glob hG1 (by omega)) (by omega)).alloc _) (ps_new htk hg2 hcap _ (by rw [hon2.size, hon1.size]) ((hon2.block g (by omega)).trans (hon1.block g (by omega)))) (by omega)).mono ?_; rintro e w2 ⟨rfl, hfr⟩; have hs2 := hfr.size; simp only [World.size_alloc, hon2.size, hon1.size] at hs2; have k1 := hfr.at ((Below.heap_alloc _ _ _ (by rw [hon2.size, hon1.size]; omega)).trans ((hon2.block (w.heap.size + 1) (by omega)).trans (set1 m1 _))) (by omega); have k2 := hfr.at ((Below.heap_alloc _ _ _ (by rw [hon2.size, hon1.size]; omega)).trans (set1 ((hon1.block (w.heap.size + 1 + 1) (by omega)).trans m2) (.int .i64 0))) (by omega); have hbl : Hid (Below w.heap.size w w2) := hfr.below ((hon2.below (hon1.below (((((Below.refl _ _).alloc (Nat.le_refl _) _).alloc (by simp) _).alloc (by simp; omega) _).trans (hb1.mono (by simp; omega))) (by omega)) (by omega)).alloc (by rw [hon2.size, hon1.size]; omega) _) (by omega) (Nat.le_refl _); clear hfr hon1 hon2 m0 m1 m2 a0 e0 z0 z1 z2 b0 b1 b2 b3 b4 b5 b6 hszl hb1))
  refine leaves_cons (f := 44) (args := #[.pointer (some ⟨w.heap.size + 1, 0, none⟩), .pointer (some ⟨w.heap.size + 1 + 1, 0, none⟩)]) (by simp) (by simp [go_sem]) ?_
  refine (catch_panicking _ _ _ _ at_ c _ _ k1 k2 (by omega)).mono ?_
  rintro e u' w'' ⟨rfl, rfl, rfl⟩
  have hon1 : Only (w.heap.size + 1) w2 (w2.setCell ⟨w.heap.size + 1, 0, none⟩ (.int .i64 at_)) := (Only.refl _ _).set 0 _
  have hon2 : Only (w.heap.size + 1 + 1) (w2.setCell ⟨w.heap.size + 1, 0, none⟩ (.int .i64 at_)) ((w2.setCell ⟨w.heap.size + 1, 0, none⟩ (.int .i64 at_)).setCell ⟨w.heap.size + 1 + 1, 0, none⟩ (.int .i64 c)) := (Only.refl _ _).set 0 _
  have hB := hon2.below (hon1.below hbl.out (by omega)) (by omega)
  have hB2 := (hB.alloc (by rw [hon2.size, hon1.size]; omega) (.cells #[.int .i64 at_, .int .i64 c] 107)).drew
  have k1' := (hon2.block (w.heap.size + 1) (by omega)).trans (set1 k1 (.int .i64 at_))
  have k2' := set1 ((hon1.block (w.heap.size + 1 + 1) (by omega)).trans k2) (.int .i64 c)
  have m1 := cell1 ((Below.heap_alloc _ (.cells #[.int .i64 at_, .int .i64 c] 107) _ (by rw [hon2.size, hon1.size]; omega)).trans k1')
  have m2 := cell1 ((Below.heap_alloc _ (.cells #[.int .i64 at_, .int .i64 c] 107) _ (by rw [hon2.size, hon1.size]; omega)).trans k2')
  simp [Leaves, settle, results, Tryz.results20, go_sem, m1, m2]
  exact hB2
end Go.Proofs.YthpanohdfelkhaaGreatDoor
/- parser.Parse where the parser panics with a failure. -/
namespace Go.Proofs.YthpanohdfelkhaaGreatDoor
open Go.RowKit
set_option maxRecDepth 100000 in
set_option maxHeartbeats 1000000 in
theorem parse_bad (s : ByteArray) (toks : List Tok) (at_ c : Int) (w : World) (hG : Glob w) (hs : s.size ≤ 1000000) (hlex : Lx.lex s.data.toList = .ok toks) (hc : (c == 0) = false) (hc' : (c != 0) = true)
    (hall : ∀ (W : World) (p tb : Nat), Glob W → PS W p tb toks bv00 → 13 ≤ p → Calls Tryz.prog 21 #[.pointer (some ⟨p, 0, none⟩)] W fun e w' => e = FailV at_ c ∧ Fr p W w') :
    Calls Tryz.prog 10 #[.string s] w fun e w' => e = .returned (.tuple #[body00, .int .i64 at_, .int .i64 c]) ∧ Below w.heap.size w w' := by
  have Hlex := Lib.hid hlex; clear hlex
  have Hall := Lib.hid hall; clear hall
  have HG : ∀ o, Hid (Glob (w.alloc o)) := fun o => hG.alloc o
  go_enter Tryz.func10, Tryz.ntmps10
  go_wp2_with (first
    | (go_at_call 20; refine (run_bad s toks at_ c _ (HG _).out hs Hlex.out Hall.out).mono ?_; rintro e w1 ⟨p, rfl, hb1⟩; have hs1 := hb1.size; simp only [World.size_alloc] at hs1; have m0 := (hb1.block w.heap.size (by simp)).trans (heap_new w _); obtain ⟨b0, b1, b2, b3, b4, b5, b6⟩ := box7 m0; have hz := frozen_of_blk m0; have hl := lt_of_blk m0))
  have hon : Only w.heap.size w1 _ := ((((((((Only.refl w.heap.size w1).set 0 (.string ⟨#[]⟩)).set 1 nilS).set 2 nilS).set 3 nilS).set 4 nilS).set 5 (.int .i64 0)).set 6 nilS)
  refine bodyPost_ret (v := .tuple #[body00, .int .i64 at_, .int .i64 c]) (by simp [results, Tryz.results10, go_sem, b0, b1, b2, b3, b4, b5, b6]) rfl ⟨rfl, ?_⟩
  exact hon.below (((Below.refl _ _).alloc (Nat.le_refl _) _).trans (hb1.mono (by simp))) (Nat.le_refl _)
end Go.Proofs.YthpanohdfelkhaaGreatDoor
