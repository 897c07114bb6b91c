/- types.Copyable and regions.Subtype at the one type int. -/
import Derived.Test.YthpanohdfelkhaaGreatDoorTyp4
import Derived.Laws.EntriesVeiled
namespace Go.Proofs.YthpanohdfelkhaaGreatDoor
open Go.RowKit Go.Shelf
section
variable {P : Program}
theorem run_update_put (t kt et : TypeId) (kd : TypeDesc) (r : Nat) (k v : Value) (w : World)
    (ht : P.underlying t = some (.map kt et)) (hkt : P.underlying kt = some kd) (hck : (Instr.checkKey false 10000 kt k).run P w = .ok () w) (hb : w.heap[r]? = some (.map #[] 0)) :
    (Instr.mapUpdate t (.map (some r)) k v).run P w = .ok () (w.putObj r (.map #[{ key := k, val := v, born := 0 }] 1)) := by
  simp [Instr.mapUpdate, run_underlying ht, getObj_of hb, hck, run_findKey kt kd k [] none w hkt rfl, setObj_of hb, World.putObj]
theorem run_look1_none (t kt et : TypeId) (kd : TypeDesc) (r : Nat) (k z : Value) (w : World)
    (ht : P.underlying t = some (.map kt et)) (hkt : P.underlying kt = some kd) (hck : (Instr.checkKey true 10000 kt k).run P w = .ok () w) (hb : w.heap[r]? = some (.map #[] 0)) (hz : (zeroValue et).run P w = .ok z w) :
    (Instr.lookup t (.map (some r)) k false).run P w = .ok z w := by
  simp [Instr.lookup, run_underlying ht, getObj_of hb, hck, run_findKey kt kd k [] none w hkt rfl, hz]
theorem run_look2_none (t kt et : TypeId) (kd : TypeDesc) (r : Nat) (k z : Value) (w : World)
    (ht : P.underlying t = some (.map kt et)) (hkt : P.underlying kt = some kd) (hck : (Instr.checkKey true 10000 kt k).run P w = .ok () w) (hb : w.heap[r]? = some (.map #[] 0)) (hz : (zeroValue et).run P w = .ok z w) :
    (Instr.lookup t (.map (some r)) k true).run P w = .ok (.tuple #[z, .bool false]) w := by
  simp [Instr.lookup, run_underlying ht, getObj_of hb, hck, run_findKey kt kd k [] none w hkt rfl, hz]
end
theorem four_new (w : World) (a b c d : Obj) : ((((w.alloc a).alloc b).alloc c).alloc d).heap[w.heap.size]? = some a ∧ ((((w.alloc a).alloc b).alloc c).alloc d).heap[w.heap.size + 1]? = some b ∧ ((((w.alloc a).alloc b).alloc c).alloc d).heap[w.heap.size + 1 + 1]? = some c ∧ ((((w.alloc a).alloc b).alloc c).alloc d).heap[w.heap.size + 1 + 1 + 1]? = some d := by
  have h0 := heap_new w a
  have h1 := heap_new (w.alloc a) b
  have h2 := heap_new ((w.alloc a).alloc b) c
  have h3 := heap_new (((w.alloc a).alloc b).alloc c) d
  simp only [World.size_alloc] at h0 h1 h2 h3
  exact ⟨(older (older (older (h0)))), (older (older (h1))), (older (h2)), (h3)⟩
theorem cell_put {W : World} {m b o : Nat} (ob : Obj) (h : b ≠ m) : (W.putObj m ob).cell? ⟨b, o, none⟩ = W.cell? ⟨b, o, none⟩ := World.cell?_of_block (a := ⟨b, o, none⟩) (World.putObj_heap_other h)
theorem fr_put (m : Nat) (o : Obj) (w : World) : Fr m w (w.putObj m o) := ⟨rfl, rfl, rfl, (grownBy_putObj' w m o).size, fun k hk hp => (grownBy_putObj' w m o).block k hk (fun e => by cases e; exact hp rfl)⟩
theorem below_put' {base : Nat} {a w : World} (h : Below base a w) {r : Nat} (hr : base ≤ r) (o : Obj) : Below base a (w.putObj r o) := below_put h hr o
set_option maxRecDepth 100000 in
set_option maxHeartbeats 1000000 in
theorem indexInt_none (x : Option Addr) (c : Nat) (fv : Value) (w : World) :
    Calls Tryz.prog 188 #[.slice x 0 c, fv] w fun r w' => r = .returned (.int .i64 (-1)) ∧ Below w.heap.size w w' := by
  go_enter Tryz.func188, Tryz.ntmps188
  go_wp2_with fail
  go_loopw [5, 8] (fun _ i wr => i = .int .i64 0 ∧ wr = w) (fun _ _ _ => 0)
  case atStart => exact ⟨rfl, rfl⟩
  case round =>
    obtain ⟨rfl, rfl⟩ := hrel
    go_wp2_with fail
    go_ret
    exact ⟨rfl, Below.refl _ _⟩
set_option maxRecDepth 100000 in
set_option maxHeartbeats 1000000 in
theorem containsInt_none (x : Option Addr) (c : Nat) (fv : Value) (w : World) :
    Calls Tryz.prog 172 #[.slice x 0 c, fv] w fun r w' => r = .returned (.bool false) ∧ Below w.heap.size w w' := by
  go_enter Tryz.func172, Tryz.ntmps172
  go_wp2_with (go_at_call 188; refine (indexInt_none x c fv _).mono ?_; rintro e w1 ⟨rfl, hb1⟩)
  go_ret
  exact ⟨rfl, hb1⟩
set_option maxRecDepth 100000 in
set_option maxHeartbeats 1000000 in
theorem copyable1 (Bt Bm Bf gt tc m : Nat) (w : World) (hBt : w.heap[Bt]? = some (.cells #[.slice (some ⟨gt, 0, none⟩) 1 tc] 34 (0, 0))) (hBm : w.heap[Bm]? = some (.cells #[.map (some m)] 254 (0, 0))) (hm : w.heap[m]? = some (.map #[] 0)) (hT : CellsAt w gt intCells) :
    Calls Tryz.prog 171 #[.int .i64 0, .pointer (some ⟨Bt, 0, none⟩), .pointer (some ⟨Bm, 0, none⟩), .pointer (some ⟨Bf, 0, none⟩)] w fun r w' => r = .returned (.bool true) ∧ Fr m w w' := by
  have T0 := hT 0 _ rfl
  have T1 := hT 1 _ rfl
  have T4 := hT 4 _ rfl
  obtain ⟨b0, bf0⟩ := cellB hBt
  obtain ⟨m0, mf0⟩ := cellB hBm
  have hmt : gt ≠ m := by rintro rfl; rw [World.cell?, hm] at T0; cases T0
  have hmb : Bt ≠ m := by rintro rfl; rw [hm] at hBt; cases hBt
  have hmf : ∀ (fn : Fn) (first cap : Array Value) (w : World), (Instr.makeFunc fn first cap).run Tryz.prog w = .ok (.func fn first cap) w := fun _ _ _ _ => rfl
  have hlk : (Instr.lookup 254 (.map (some m)) (.int .i64 0) false).run Tryz.prog w = .ok (.bool false) w :=
    run_look1_none _ _ _ (.int .i64) m _ _ w Tryz.underlying254 Tryz.underlying3 (run_checkKey _ _ (.int .i64) _ w Tryz.underlying3 rfl) hm (by rfl)
  have hup : (Instr.mapUpdate 254 (.map (some m)) (.int .i64 0) (.bool true)).run Tryz.prog w = .ok () (w.putObj m (.map #[{ key := .int .i64 0, val := .bool true, born := 0 }] 1)) :=
    run_update_put _ _ _ (.int .i64) m _ _ w Tryz.underlying254 Tryz.underlying3 (run_checkKey _ _ (.int .i64) _ w Tryz.underlying3 rfl) hm
  have e0 := (cell_put (W := w) (m := m) (o := 0) (.map #[{ key := .int .i64 0, val := .bool true, born := 0 }] 1) hmb).trans b0
  have e4 := (cell_put (W := w) (m := m) (o := 4) (.map #[{ key := .int .i64 0, val := .bool true, born := 0 }] 1) hmt).trans T4
  clear hT
  go_enter Tryz.func171, Tryz.ntmps171
  go_wp2_with (go_at_call 172; refine (containsInt_none _ _ _ _).mono ?_; rintro e w1 ⟨rfl, hb1⟩)
  go_ret
  exact ⟨rfl, (fr_put m _ w).trans (Fr.of_below hb1)⟩
set_option maxRecDepth 100000 in
set_option maxHeartbeats 1000000 in
theorem copyable_int (gt tc : Nat) (w : World) (hT : CellsAt w gt intCells) :
    Calls Tryz.prog 146 #[.slice (some ⟨gt, 0, none⟩) 1 tc, .int .i64 0] w fun r w' => r = .returned (.bool true) ∧ Below w.heap.size w w' := by
  have hmm := @run_makeMap Tryz.prog
  have hmf : ∀ (fn : Fn) (first cap : Array Value) (w : World), (Instr.makeFunc fn first cap).run Tryz.prog w = .ok (.func fn first cap) w := fun _ _ _ _ => rfl
  have HT := Lib.hid hT; clear hT
  go_enter Tryz.func146, Tryz.ntmps146
  go_wp2_with fail
  obtain ⟨f0, f1, f2, f3⟩ := four_new w (.cells #[.slice (some ⟨gt, 0, none⟩) 1 tc] 34) (.map #[] 0) (.cells #[.map (some (w.heap.size + 1))] 254) (.cells #[.func (.func 171) #[] #[.pointer (some ⟨w.heap.size, 0, none⟩), .pointer (some ⟨w.heap.size + 1 + 1, 0, none⟩), .pointer (some ⟨w.heap.size + 1 + 1 + 1, 0, none⟩)]] 232)
  have hB : Below w.heap.size w ((((w.alloc (.cells #[.slice (some ⟨gt, 0, none⟩) 1 tc] 34)).alloc (.map #[] 0)).alloc (.cells #[.map (some (w.heap.size + 1))] 254)).alloc (.cells #[.func (.func 171) #[] #[.pointer (some ⟨w.heap.size, 0, none⟩), .pointer (some ⟨w.heap.size + 1 + 1, 0, none⟩), .pointer (some ⟨w.heap.size + 1 + 1 + 1, 0, none⟩)]] 232)) := by repeat (first | exact Below.refl _ _ | assumption | refine Below.setCell ?_ (by simp <;> omega) _ | refine Below.alloc ?_ (by simp <;> omega) _ | refine Below.drew ?_)
  refine (copyable1 w.heap.size (w.heap.size + 1 + 1) (w.heap.size + 1 + 1 + 1) gt tc (w.heap.size + 1) _ f0 f2 f1 (HT.out.below hB)).mono ?_
  rintro e w1 ⟨rfl, hfr⟩
  have hb := hfr.below hB (by omega) (Nat.le_refl _)
  clear hfr f0 f1 f2 f3 hB
  go_wp2_with fail
  go_ret
  exact ⟨rfl, hb⟩
set_option maxRecDepth 100000 in
set_option maxHeartbeats 2000000 in
theorem subtype1 (Bm Bt Br Bf gt tc m : Nat) (w : World) (hBt : w.heap[Bt]? = some (.cells #[.slice (some ⟨gt, 0, none⟩) 1 tc] 34 (0, 0))) (hBm : w.heap[Bm]? = some (.cells #[.map (some m)] 279 (0, 0))) (hm : w.heap[m]? = some (.map #[] 0)) (hT : CellsAt w gt intCells) :
    Calls Tryz.prog 189 #[.int .i64 0, .int .i64 0, .pointer (some ⟨Bm, 0, none⟩), .pointer (some ⟨Bt, 0, none⟩), .pointer (some ⟨Br, 0, none⟩), .pointer (some ⟨Bf, 0, none⟩)] w fun r w' => r = .returned (.bool true) ∧ Fr m w w' := by
  have T0 : w.cell? ⟨gt, 0, none⟩ = some (.int .i64 2) := hT 0 _ rfl
  have T1 : w.cell? ⟨gt, 1, none⟩ = some (.bool false) := hT 1 _ rfl
  have T2 : w.cell? ⟨gt, 2, none⟩ = some (.int .i64 0) := hT 2 _ rfl
  have T3 : w.cell? ⟨gt, 3, none⟩ = some (.int .i64 0) := hT 3 _ rfl
  have T4 : w.cell? ⟨gt, 4, none⟩ = some (.slice none 0 0) := hT 4 _ rfl
  obtain ⟨b0, bf0⟩ := cellB hBt
  have hgl := block_of_cell T0
  have hbl := lt_of_blk hBt
  have hbm := lt_of_blk hBm
  obtain ⟨m0, mf0⟩ := cellB hBm
  have hck : ∀ (b : Bool) (W : World), (Instr.checkKey b 10000 115 (.agg #[.int .i64 0, .int .i64 0])).run Tryz.prog W = .ok () W := fun b W => by cases b <;> kernel_rfl
  have hlk : (Instr.lookup 279 (.map (some m)) (.agg #[.int .i64 0, .int .i64 0]) true).run Tryz.prog w = .ok (.tuple #[.bool false, .bool false]) w :=
    run_look2_none _ _ _ _ m _ _ w Tryz.underlying279 Tryz.underlying115 (hck true w) hm (by rfl)
  have hup : ∀ W : World, W.heap[m]? = some (.map #[] 0) → (Instr.mapUpdate 279 (.map (some m)) (.agg #[.int .i64 0, .int .i64 0]) (.bool true)).run Tryz.prog W = .ok () (W.putObj m (.map #[{ key := .agg #[.int .i64 0, .int .i64 0], val := .bool true, born := 0 }] 1)) := fun W hW =>
    run_update_put _ _ _ _ m _ _ W Tryz.underlying279 Tryz.underlying115 (hck false W) hW
  have HU := Lib.hid hup
  clear hT hck hup
  go_enter Tryz.func189, Tryz.ntmps189
  go_wp2_with fail
  go_region_held3 (fun w' => w'.cell? ⟨Bt, 0, none⟩ = some (.slice (some ⟨gt, 0, none⟩) 1 tc) ∧ w'.cell? ⟨gt, 0, none⟩ = some (.int .i64 2) ∧ w'.cell? ⟨gt, 1, none⟩ = some (.bool false) ∧ w'.cell? ⟨gt, 2, none⟩ = some (.int .i64 0) ∧ w'.cell? ⟨gt, 3, none⟩ = some (.int .i64 0) ∧ w'.cell? ⟨gt, 4, none⟩ = some (.slice none 0 0)) (first | exact ⟨by assumption, by assumption, by assumption, by assumption, by assumption, by assumption⟩ | go_keep) (fail)
  all_goals
    have hm' : ((w.alloc (.cells #[.int .i64 2, .bool false, .int .i64 0, .int .i64 0, .slice none 0 0] 68)).alloc (.cells #[.int .i64 2, .bool false, .int .i64 0, .int .i64 0, .slice none 0 0] 68)).drew.heap[m]? = some (.map #[] 0) := older (older hm)
    have hup := HU.out _ hm'
    have hfr : Fr m w ((w.alloc (.cells #[.int .i64 2, .bool false, .int .i64 0, .int .i64 0, .slice none 0 0] 68)).alloc (.cells #[.int .i64 2, .bool false, .int .i64 0, .int .i64 0, .slice none 0 0] 68)).drew := (((Fr.refl m w).alloc _).alloc _).drew
    go_wp2_with fail
    refine wp_loop_rounds 1 ?_
    rw [rounds_succ]
    go_wp2_with fail
    all_goals go_ret
    all_goals exact ⟨rfl, hfr.trans (fr_put m _ _)⟩
set_option maxRecDepth 100000 in
set_option maxHeartbeats 1000000 in
theorem subtype_int (r gt tc : Nat) (w : World) (hT : CellsAt w gt intCells) :
    Calls Tryz.prog 174 #[.pointer (some ⟨r, 0, none⟩), .slice (some ⟨gt, 0, none⟩) 1 tc, .int .i64 0, .int .i64 0] w fun r w' => r = .returned (.bool true) ∧ Below w.heap.size w w' := by
  have hmm := @run_makeMap Tryz.prog
  have hmf : ∀ (fn : Fn) (first cap : Array Value) (w : World), (Instr.makeFunc fn first cap).run Tryz.prog w = .ok (.func fn first cap) w := fun _ _ _ _ => rfl
  have HT := Lib.hid hT; clear hT
  go_enter Tryz.func174, Tryz.ntmps174
  go_wp2_with fail
  obtain ⟨f0, f1, f2, f3, f4⟩ := five_new w (.cells #[.pointer (some ⟨r, 0, none⟩)] 120) (.cells #[.slice (some ⟨gt, 0, none⟩) 1 tc] 34) (.map #[] 0) (.cells #[.map (some (w.heap.size + 1 + 1))] 279) (.cells #[.func (.func 189) #[] #[.pointer (some ⟨w.heap.size + 1 + 1 + 1, 0, none⟩), .pointer (some ⟨w.heap.size + 1, 0, none⟩), .pointer (some ⟨w.heap.size, 0, none⟩), .pointer (some ⟨w.heap.size + 1 + 1 + 1 + 1, 0, none⟩)]] 154)
  have hB : Below w.heap.size w (((((w.alloc (.cells #[.pointer (some ⟨r, 0, none⟩)] 120)).alloc (.cells #[.slice (some ⟨gt, 0, none⟩) 1 tc] 34)).alloc (.map #[] 0)).alloc (.cells #[.map (some (w.heap.size + 1 + 1))] 279)).alloc (.cells #[.func (.func 189) #[] #[.pointer (some ⟨w.heap.size + 1 + 1 + 1, 0, none⟩), .pointer (some ⟨w.heap.size + 1, 0, none⟩), .pointer (some ⟨w.heap.size, 0, none⟩), .pointer (some ⟨w.heap.size + 1 + 1 + 1 + 1, 0, none⟩)]] 154)) := by repeat (first | exact Below.refl _ _ | assumption | refine Below.setCell ?_ (by simp <;> omega) _ | refine Below.alloc ?_ (by simp <;> omega) _ | refine Below.drew ?_)
  refine (subtype1 (w.heap.size + 1 + 1 + 1) (w.heap.size + 1) w.heap.size (w.heap.size + 1 + 1 + 1 + 1) gt tc (w.heap.size + 1 + 1) _ f1 f3 f2 (HT.out.below hB)).mono ?_
  rintro e w1 ⟨rfl, hfr⟩
  have hb := hfr.below hB (by omega) (Nat.le_refl _)
  clear hfr f0 f1 f2 f3 f4 hB
  go_wp2_with fail
  go_ret
  exact ⟨rfl, hb⟩
end Go.Proofs.YthpanohdfelkhaaGreatDoor
