/- The parser's expect: words and signs in sequence. The parser's state (PS) is given; of what lay in memory only the parser's own block changes. -/
import Derived.Test.YthpanohdfelkhaaGreatDoorPar3
namespace Go.Proofs.YthpanohdfelkhaaGreatDoor
open Go.RowKit
/-- what expect comes to: the tokens behind the words, or the place of the first that does not fit -/
def expGo : List (List UInt8) → List Tok → Except Int (List Tok)
  | [], ts => .ok ts
  | _ :: _, [] => .error 0
  | x :: ws, t :: ts => if 0 ≤ isIdx t [x] then expGo ws ts else .error t.pos
theorem isIdx_end {t : Tok} {ws : List (List UInt8)} (h : 0 ≤ isIdx t ws) : t.k ≠ 0 := by
  intro h0; unfold isIdx at h; rw [if_neg (by omega)] at h; omega
def ExpPost (r : Except Int (List Tok)) (p tb : Nat) (bv : BV) (w : World) (e : Ending) (w' : World) : Prop :=
  Fr p w w' ∧ match r with
  | .ok ts => e = .returned (.tuple #[]) ∧ PS w' p tb ts bv
  | .error q => e = FailV q 18
/-- the loop's relation -/
def ExpRel (p tb : Nat) (bv : BV) (ws : List (List UInt8)) (ts0 : List Tok) (w : World) (i : Value) (wr : World) : Prop :=
  ∃ (k : Nat) (ts : List Tok), i = .int .i64 k ∧ k ≤ ws.length ∧ Ended ts ∧ expGo ws ts0 = expGo (ws.drop k) ts ∧ PS wr p tb ts bv ∧ Fr p w wr
set_option maxRecDepth 100000 in
set_option maxHeartbeats 1000000 in
theorem expect_any (p tb : Nat) (ts0 : List Tok) (bv : BV) (s : ByteArray) (ws : List (List UInt8)) (w : World) (hG : Glob w) (h : PS w p tb ts0 bv) (hp13 : 13 ≤ p) (hw : Words s ws) (hl : ws.length < 1000) (hws : ∀ x ∈ ws, Words ⟨x.toArray⟩ [x]) (he : Ended ts0) :
    Calls Tryz.prog 45 #[.pointer (some ⟨p, 0, none⟩), .string s] w (ExpPost (expGo ws ts0) p tb bv w) := by
  have hp := h.plt
  go_enter Tryz.func45, Tryz.ntmps45
  go_wp2_with (first | (go_at_call 88; refine (fields_c s ws _ hG hw).mono ?_; rintro e w' ⟨rfl, rfl⟩))
  go_loopw [5, 9] (fun _ i wr => ExpRel p tb bv ws ts0 (w.alloc (.cells (ws.map fun l => Value.string ⟨l.toArray⟩).toArray 9)) i wr) (fun _ i _ => ws.length - (intOf i).toNat)
  case atStart => exact ⟨0, ts0, rfl, Nat.zero_le _, he, rfl, h.alloc _, Fr.refl _ _⟩
  case round =>
    obtain ⟨k, ts, rfl, hk, hend, heq, hps, hfr⟩ := hrel
    have Heq := Lib.hid heq; clear heq
    have HGr : Hid (Glob wr) := (hG.alloc _).fr hfr hp13
    have Hfr := Lib.hid hfr; clear hfr
    by_cases hlt : k < ws.length
    · have hx := List.getElem?_eq_getElem hlt
      obtain ⟨x, hx'⟩ : ∃ x, ws[k] = x := ⟨_, rfl⟩
      have hblk : wr.heap[w.heap.size]? = some (.cells (ws.map fun l => Value.string ⟨l.toArray⟩).toArray 9 (0, 0)) := (Hfr.out.block w.heap.size (by simp) (by omega)).trans (heap_new _ _)
      have hcell : wr.cell? ⟨w.heap.size, k, none⟩ = some (.string ⟨x.toArray⟩) := by rw [cell_of_blk hblk]; simp [hx, hx']
      have hwx : Words ⟨x.toArray⟩ [x] := hws x (by rw [← hx']; exact List.getElem_mem hlt)
      have hdrop : ws.drop k = x :: ws.drop (k + 1) := by rw [List.drop_eq_getElem_cons hlt, hx']
      obtain ⟨t, us, rfl⟩ := hend.cons
      have Hblk := Lib.hid hblk; clear hblk hx hx'
      have Heq2 : Hid (expGo ws ts0 = if 0 ≤ isIdx t [x] then expGo (ws.drop (k + 1)) us else .error t.pos) := by rw [Heq.out, hdrop]; rfl
      clear hdrop
      by_cases hi : 0 ≤ isIdx t [x]
      · obtain ⟨hus, hend2⟩ := hend.tail (isIdx_end hi)
        go_wp2_with (first | (go_at_call 47; refine (maybe_in p tb t us bv _ [x] _ HGr.out hps hwx (by simp) hi hus).mono ?_; rintro e w1 ⟨rfl, hps1, hfr1⟩))
        exact ⟨⟨k + 1, us, by simp, hlt, hend2, by rw [Heq2.out, if_pos hi], hps1, Hfr.out.trans hfr1⟩, by simp [intOf]; omega⟩
      · go_wp2_with (first | (go_at_call 47; refine (maybe_out p tb t us bv _ [x] _ HGr.out hps hwx (by simp) (by omega)).mono ?_; rintro e w1 ⟨rfl, hb1⟩; have hps1 := hps.keep hb1) | (go_at_call 89; refine (fail_c p tb t us bv 18 _ hps1).mono ?_; rintro e w2 ⟨rfl, rfl⟩))
        refine ⟨rfl, (((Fr.refl _ _).alloc _).trans Hfr.out).trans (Fr.of_below hb1), ?_⟩
        rw [Heq2.out, if_neg (by omega)]
    · have hkl : k = ws.length := by omega
      go_wp2_with fail
      go_end0
      refine ⟨((Fr.refl _ _).alloc _).trans Hfr.out, ?_⟩
      rw [Heq.out, hkl, List.drop_length]
      exact ⟨rfl, hps⟩
end Go.Proofs.YthpanohdfelkhaaGreatDoor
