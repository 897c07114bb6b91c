/- The parser's steps: the end's take, index, expect, numbered, named. The parser's state (PS) is given; of what lay in memory only the parser's own block changes. -/
import Derived.Test.YthpanohdfelkhaaGreatDoorPar2
namespace Go.Proofs.YthpanohdfelkhaaGreatDoor
open Go.RowKit
theorem tok_f1 (k : Int) (s : ByteArray) (n q : Int) (w : World) : (Instr.field 110 (.agg #[.int .i64 k, .string s, .int .i64 n, .int .i64 q]) 1).run Tryz.prog w = .ok (.string s) w := by kernel_rfl
theorem tok_f2 (k : Int) (s : ByteArray) (n q : Int) (w : World) : (Instr.field 110 (.agg #[.int .i64 k, .string s, .int .i64 n, .int .i64 q]) 2).run Tryz.prog w = .ok (.int .i64 n) w := by kernel_rfl
/-- the tokens end with the end -/
def Ended : List Tok → Prop
  | [] => False
  | [t] => t.k = 0
  | _ :: u :: ts => Ended (u :: ts)
theorem Ended.tail {t : Tok} {ts : List Tok} (h : Ended (t :: ts)) (hk : t.k ≠ 0) : ts ≠ [] ∧ Ended ts := by
  cases ts with
  | nil => exact absurd h hk
  | cons u us => exact ⟨by simp, h⟩
theorem Ended.cons {ts : List Tok} (h : Ended ts) : ∃ t us, ts = t :: us := by
  cases ts with
  | nil => exact h.elim
  | cons t us => exact ⟨t, us, rfl⟩
set_option maxRecDepth 100000 in
set_option maxHeartbeats 400000 in
theorem next_end (p tb : Nat) (t : Tok) (ts : List Tok) (bv : BV) (w : World) (h : PS w p tb (t :: ts) bv) (hk : (t.k != 0) = false) :
    Calls Tryz.prog 91 #[.pointer (some ⟨p, 0, none⟩)] w fun r w' => r = .returned (.agg #[.int .i64 t.k, .string ⟨t.tx.toArray⟩, .int .i64 t.n, .int .i64 t.pos]) ∧ Below w.heap.size w w' := by
  obtain ⟨ao, c, h⟩ := h
  have h0 := h.c0
  have hab := h.lt
  have hp := h.plt
  simp only [List.length_cons] at h0
  obtain ⟨⟨t0, t1, t2, t3⟩, hrest⟩ := h.toks
  have hlt : 0 < ts.length + 1 := by omega
  clear h hrest
  go_enter Tryz.func91, Tryz.ntmps91
  go_wp2_with fail
  exact bodyPost_ret (v := .agg #[.int .i64 t.k, .string ⟨t.tx.toArray⟩, .int .i64 t.n, .int .i64 t.pos]) (by simp [results, Tryz.results91, go_sem]) rfl ⟨rfl, ((Below.refl _ _).alloc (Nat.le_refl _) _).alloc (by simp) _⟩
set_option maxRecDepth 100000 in
set_option maxHeartbeats 400000 in
/-- 'take' of the end: it stays -/
theorem take_end (p tb : Nat) (t : Tok) (ts : List Tok) (bv : BV) (w : World) (h : PS w p tb (t :: ts) bv) (hk : (t.k != 0) = false) :
    Calls Tryz.prog 46 #[.pointer (some ⟨p, 0, none⟩), .int .i64 0] w fun r w' => r = .returned (.agg #[.int .i64 t.k, .string ⟨t.tx.toArray⟩, .int .i64 t.n, .int .i64 t.pos]) ∧ Below w.heap.size w w' := by
  have hp := h.plt
  have htb := h.tlt
  have hps0 : ∀ o, PS (w.alloc o) p tb (t :: ts) bv := fun o => h.alloc o
  go_enter Tryz.func46, Tryz.ntmps46
  go_wp2_with (first | (go_at_call 90; refine (kind_yes p tb t ts bv 0 _ (hps0 _) hk).mono ?_; rintro e w1 ⟨rfl, hb1⟩; have hps1 := (hps0 _).keep hb1) | (go_at_call 91; refine (next_end p tb t ts bv _ hps1 hk).mono ?_; rintro e w2 ⟨rfl, hb2⟩; obtain ⟨c0, c1, c2, c3, f0, f1, f2, f3⟩ := box4 (box_after hb1 (Fr.of_below hb2) hp)))
  refine bodyPost_ret (v := .agg #[.int .i64 t.k, .string ⟨t.tx.toArray⟩, .int .i64 t.n, .int .i64 t.pos]) (by simp [results, Tryz.results46, go_sem, c0, c1, c2, c3]) rfl ⟨rfl, ?_⟩
  have h0 : Below w.heap.size w w2 := ((Below.refl _ _).alloc (Nat.le_refl _) _).trans ((hb1.mono (by simp)).trans (hb2.mono (by have := hb1.size; simp at this; omega)))
  exact (((h0.setCell (by simp) _).setCell (by simp) _).setCell (by simp) _).setCell (by simp) _
set_option maxRecDepth 100000 in
set_option maxHeartbeats 400000 in
theorem index_yes (p tb : Nat) (t : Tok) (ts : List Tok) (bv : BV) (k : Int) (w : World) (h : PS w p tb (t :: ts) bv) (hk : (t.k != k) = false) (hk0 : (t.k != 0) = true) (hts : ts ≠ []) :
    Calls Tryz.prog 94 #[.pointer (some ⟨p, 0, none⟩), .int .i64 k] w fun r w' => r = .returned (.int .i64 t.n) ∧ PS w' p tb ts bv ∧ Fr p w w' := by
  have hf2 := tok_f2
  go_enter Tryz.func94, Tryz.ntmps94
  go_wp2_with (first | (go_at_call 46; refine (take_yes p tb t ts bv k _ h hk hk0 hts).mono ?_; rintro e w1 ⟨rfl, hps1, hfr⟩))
  go_ret
  exact ⟨rfl, hps1, hfr⟩
set_option maxRecDepth 100000 in
set_option maxHeartbeats 400000 in
theorem numbered_yes (p tb : Nat) (t : Tok) (ts : List Tok) (bv : BV) (k n : Int) (w : World) (h : PS w p tb (t :: ts) bv) (hk : (t.k != k) = false) (hn : (t.n != n) = false) (hk0 : (t.k != 0) = true) (hts : ts ≠ []) :
    Calls Tryz.prog 53 #[.pointer (some ⟨p, 0, none⟩), .int .i64 k, .int .i64 n] w fun r w' => r = .returned (.tuple #[]) ∧ PS w' p tb ts bv ∧ Fr p w w' := by
  have hf2 := tok_f2
  go_enter Tryz.func53, Tryz.ntmps53
  go_wp2_with (first | (go_at_call 90; refine (kind_yes p tb t ts bv k _ h hk).mono ?_; rintro e w1 ⟨rfl, hb1⟩; have hps1 := h.keep hb1) | (go_at_call 91; refine (next_c p tb t ts bv _ hps1 hk0 hts).mono ?_; rintro e w2 ⟨rfl, hps2, hfr⟩))
  go_end0
  exact ⟨rfl, hps2, (Fr.of_below hb1).trans hfr⟩
set_option maxRecDepth 100000 in
set_option maxHeartbeats 400000 in
theorem numbered_no (p tb : Nat) (t : Tok) (ts : List Tok) (bv : BV) (k n : Int) (w : World) (h : PS w p tb (t :: ts) bv) (hk : (t.k != k) = false) (hn : (t.n != n) = true) :
    Calls Tryz.prog 53 #[.pointer (some ⟨p, 0, none⟩), .int .i64 k, .int .i64 n] w fun r w' => r = FailV t.pos 18 ∧ Fr p w w' := by
  have hf2 := tok_f2
  go_enter Tryz.func53, Tryz.ntmps53
  go_wp2_with (first | (go_at_call 90; refine (kind_yes p tb t ts bv k _ h hk).mono ?_; rintro e w1 ⟨rfl, hb1⟩; have hps1 := h.keep hb1) | (go_at_call 89; refine (fail_c p tb t ts bv 18 _ hps1).mono ?_; rintro e w2 ⟨rfl, rfl⟩))
  exact ⟨rfl, rfl, Fr.of_below hb1⟩
end Go.Proofs.YthpanohdfelkhaaGreatDoor
