/- The parser's steps over words: accept, maybe, expect, kind, take, index, numbered. The parser's state (PS) is given; of what lay in memory only the parser's own block changes. -/
import Derived.Test.YthpanohdfelkhaaGreatDoorPar1
namespace Go.Proofs.YthpanohdfelkhaaGreatDoor
open Go.RowKit
def isIdx (t : Tok) (ws : List (List UInt8)) : Int := if t.k = 1 ∨ t.k = 8 then idxW ws t.tx 0 else -1
theorem idxW_ge : ∀ (ws : List (List UInt8)) (x : List UInt8) (i : Nat), -1 ≤ idxW ws x i
  | [], _, _ => by simp [idxW]
  | z :: zs, x, i => by
    by_cases h : z = x
    · unfold idxW; rw [if_pos h]; omega
    · unfold idxW; rw [if_neg h]; exact idxW_ge zs x (i + 1)
theorem is_in (p tb : Nat) (t : Tok) (ts : List Tok) (bv : BV) (s : ByteArray) (ws : List (List UInt8)) (i : Int) (w : World) (hG : Glob w) (h : PS w p tb (t :: ts) bv) (hw : Words s ws) (hl : ws.length < 1000) (hi : isIdx t ws = i) (hi0 : 0 ≤ i) :
    Calls Tryz.prog 123 #[.pointer (some ⟨p, 0, none⟩), .string s] w fun r w' => r = .returned (.tuple #[.int .i64 i, .bool true]) ∧ Below w.heap.size w w' := by
  obtain ⟨ao, c, h⟩ := h
  unfold isIdx at hi
  split at hi
  · rename_i hk
    rcases hk with hk | hk
    · exact is_yes1 p tb ao c t ts bv s ws i w hG h hw hl hk hi hi0
    · exact is_yes8 p tb ao c t ts bv s ws i w hG h hw hl hk hi hi0
  · omega
theorem is_out (p tb : Nat) (t : Tok) (ts : List Tok) (bv : BV) (s : ByteArray) (ws : List (List UInt8)) (w : World) (hG : Glob w) (h : PS w p tb (t :: ts) bv) (hw : Words s ws) (hl : ws.length < 1000) (hi : isIdx t ws < 0) :
    Calls Tryz.prog 123 #[.pointer (some ⟨p, 0, none⟩), .string s] w fun r w' => r = .returned (.tuple #[.int .i64 0, .bool false]) ∧ Below w.heap.size w w' := by
  obtain ⟨ao, c, h⟩ := h
  unfold isIdx at hi
  split at hi
  · rename_i hk
    have := idxW_ge ws t.tx 0
    rcases hk with hk | hk
    · exact is_no1 p tb ao c t ts bv s ws (-1) w hG h hw hl hk (by omega) rfl
    · exact is_no8 p tb ao c t ts bv s ws (-1) w hG h hw hl hk (by omega) rfl
  · rename_i hk
    exact is_other p tb ao c t ts bv s w h (by rw [bne_iff_ne]; omega) (by rw [bne_iff_ne]; omega)
theorem next_c (p tb : Nat) (t : Tok) (ts : List Tok) (bv : BV) (w : World) (h : PS w p tb (t :: ts) bv) (hk : (t.k != 0) = true) (hts : ts ≠ []) :
    Calls Tryz.prog 91 #[.pointer (some ⟨p, 0, none⟩)] w fun r w' => r = .returned (.agg #[.int .i64 t.k, .string ⟨t.tx.toArray⟩, .int .i64 t.n, .int .i64 t.pos]) ∧ PS w' p tb ts bv ∧ Fr p w w' := by
  obtain ⟨ao, c, h⟩ := h
  refine (next_at p tb ao c t ts bv w h hk hts).mono ?_
  rintro e w' ⟨rfl, h1, h2⟩
  exact ⟨rfl, ⟨_, _, h1⟩, h2⟩
theorem fail_c (p tb : Nat) (t : Tok) (ts : List Tok) (bv : BV) (e : Int) (w : World) (h : PS w p tb (t :: ts) bv) :
    Calls Tryz.prog 89 #[.pointer (some ⟨p, 0, none⟩), .int .i64 e] w fun r w' => r = FailV t.pos e ∧ w = w' := by
  obtain ⟨ao, c, h⟩ := h
  exact fail_at p tb ao c t ts bv e w h
theorem PS.plt {w : World} {p tb : Nat} {toks : List Tok} {bv : BV} (h : PS w p tb toks bv) : p < w.heap.size := by
  obtain ⟨_, _, h⟩ := h; exact h.plt
theorem PS.tlt {w : World} {p tb : Nat} {toks : List Tok} {bv : BV} (h : PS w p tb toks bv) : tb < w.heap.size := by
  obtain ⟨_, _, h⟩ := h; exact h.lt
set_option maxHeartbeats 400000 in
theorem accept_in (p tb : Nat) (t : Tok) (ts : List Tok) (bv : BV) (s : ByteArray) (ws : List (List UInt8)) (i : Int) (w : World) (hG : Glob w) (h : PS w p tb (t :: ts) bv) (hw : Words s ws) (hl : ws.length < 1000) (hi : isIdx t ws = i) (hi0 : 0 ≤ i) (hts : ts ≠ []) :
    Calls Tryz.prog 92 #[.pointer (some ⟨p, 0, none⟩), .string s] w fun r w' => r = .returned (.tuple #[.int .i64 i, .bool true]) ∧ PS w' p tb ts bv ∧ Fr p w w' := by
  have hk : (t.k != 0) = true := by
    rw [bne_iff_ne]; intro h0
    unfold isIdx at hi; rw [if_neg (by omega)] at hi; omega
  have Hi := Lib.hid hi; clear hi
  go_enter Tryz.func92, Tryz.ntmps92
  go_wp2_with (first | (go_at_call 123; refine (is_in p tb t ts bv s ws i _ hG h hw hl Hi.out hi0).mono ?_; rintro e w1 ⟨rfl, hb1⟩; have hps1 := h.keep hb1) | (go_at_call 91; refine (next_c p tb t ts bv _ hps1 hk hts).mono ?_; rintro e w2 ⟨rfl, hps2, hfr⟩))
  go_ret2
  exact ⟨rfl, hps2, (Fr.of_below hb1).trans hfr⟩
set_option maxHeartbeats 400000 in
theorem accept_out (p tb : Nat) (t : Tok) (ts : List Tok) (bv : BV) (s : ByteArray) (ws : List (List UInt8)) (w : World) (hG : Glob w) (h : PS w p tb (t :: ts) bv) (hw : Words s ws) (hl : ws.length < 1000) (hi : isIdx t ws < 0) :
    Calls Tryz.prog 92 #[.pointer (some ⟨p, 0, none⟩), .string s] w fun r w' => r = .returned (.tuple #[.int .i64 0, .bool false]) ∧ Below w.heap.size w w' := by
  go_enter Tryz.func92, Tryz.ntmps92
  go_wp2_with (first | (go_at_call 123; refine (is_out p tb t ts bv s ws _ hG h hw hl hi).mono ?_; rintro e w1 ⟨rfl, hb1⟩))
  go_ret2
  exact ⟨rfl, hb1⟩
set_option maxHeartbeats 400000 in
theorem maybe_in (p tb : Nat) (t : Tok) (ts : List Tok) (bv : BV) (s : ByteArray) (ws : List (List UInt8)) (w : World) (hG : Glob w) (h : PS w p tb (t :: ts) bv) (hw : Words s ws) (hl : ws.length < 1000) (hi : 0 ≤ isIdx t ws) (hts : ts ≠ []) :
    Calls Tryz.prog 47 #[.pointer (some ⟨p, 0, none⟩), .string s] w fun r w' => r = .returned (.bool true) ∧ PS w' p tb ts bv ∧ Fr p w w' := by
  go_enter Tryz.func47, Tryz.ntmps47
  go_wp2_with (first | (go_at_call 92; refine (accept_in p tb t ts bv s ws _ _ hG h hw hl rfl hi hts).mono ?_; rintro e w1 ⟨rfl, hps1, hfr⟩))
  go_ret
  exact ⟨rfl, hps1, hfr⟩
set_option maxHeartbeats 400000 in
theorem maybe_out (p tb : Nat) (t : Tok) (ts : List Tok) (bv : BV) (s : ByteArray) (ws : List (List UInt8)) (w : World) (hG : Glob w) (h : PS w p tb (t :: ts) bv) (hw : Words s ws) (hl : ws.length < 1000) (hi : isIdx t ws < 0) :
    Calls Tryz.prog 47 #[.pointer (some ⟨p, 0, none⟩), .string s] w fun r w' => r = .returned (.bool false) ∧ Below w.heap.size w w' := by
  go_enter Tryz.func47, Tryz.ntmps47
  go_wp2_with (first | (go_at_call 92; refine (accept_out p tb t ts bv s ws _ hG h hw hl hi).mono ?_; rintro e w1 ⟨rfl, hb1⟩))
  go_ret
  exact ⟨rfl, hb1⟩
set_option maxHeartbeats 400000 in
theorem kind_yes (p tb : Nat) (t : Tok) (ts : List Tok) (bv : BV) (k : Int) (w : World) (h : PS w p tb (t :: ts) bv) (hk : (t.k != k) = false) :
    Calls Tryz.prog 90 #[.pointer (some ⟨p, 0, none⟩), .int .i64 k] w fun r w' => r = .returned (.agg #[.int .i64 t.k, .string ⟨t.tx.toArray⟩, .int .i64 t.n, .int .i64 t.pos]) ∧ Below w.heap.size w w' := by
  obtain ⟨ao, c, h⟩ := h
  have h0 := h.c0
  have hab := h.lt
  have hp := h.plt
  simp only [List.length_cons] at h0
  obtain ⟨⟨t0, t1, t2, t3⟩, hrest⟩ := h.toks
  have hlt : 0 < ts.length + 1 := by omega
  clear h hrest
  go_enter Tryz.func90, Tryz.ntmps90
  go_wp2_with fail
  exact bodyPost_ret (v := .agg #[.int .i64 t.k, .string ⟨t.tx.toArray⟩, .int .i64 t.n, .int .i64 t.pos]) (by simp [results, Tryz.results90, go_sem]) rfl ⟨rfl, (Below.refl _ _).alloc (Nat.le_refl _) _⟩
set_option maxHeartbeats 400000 in
theorem kind_no (p tb : Nat) (t : Tok) (ts : List Tok) (bv : BV) (k : Int) (w : World) (h : PS w p tb (t :: ts) bv) (hk : (t.k != k) = true) :
    Calls Tryz.prog 90 #[.pointer (some ⟨p, 0, none⟩), .int .i64 k] w fun r w' => r = FailV t.pos 18 ∧ Fr p w w' := by
  have h' := h
  obtain ⟨ao, c, h⟩ := h
  have h0 := h.c0
  have hab := h.lt
  have hp := h.plt
  simp only [List.length_cons] at h0
  obtain ⟨⟨t0, t1, t2, t3⟩, hrest⟩ := h.toks
  have hlt : 0 < ts.length + 1 := by omega
  have hps1 : ∀ o, PS (w.alloc o) p tb (t :: ts) bv := fun o => h'.keep ((Below.refl _ _).alloc (Nat.le_refl _) o)
  clear h hrest h'
  go_enter Tryz.func90, Tryz.ntmps90
  go_wp2_with (first | (go_at_call 89; refine (fail_c p tb t ts bv 18 _ (hps1 _)).mono ?_; rintro e w1 ⟨rfl, rfl⟩))
  exact ⟨rfl, rfl, (Fr.refl _ _).alloc _⟩
theorem box_after {w w1 w2 : World} {o : Obj} {p : Nat} (hb1 : Below (w.alloc o).heap.size (w.alloc o) w1) (hfr : Fr p w1 w2) (hp : p < w.heap.size) : w2.heap[w.heap.size]? = some o := by
  have h1 := hb1.block w.heap.size (by simp)
  have hs := hb1.size
  simp only [World.size_alloc] at hs
  exact (hfr.block w.heap.size (by omega) (by omega)).trans (h1.trans (heap_new w o))
theorem box4 {w : World} {b : Nat} {x0 x1 x2 x3 : Value} {t : TypeId} (h : w.heap[b]? = some (.cells #[x0, x1, x2, x3] t (0, 0))) :
    w.cell? ⟨b, 0, none⟩ = some x0 ∧ w.cell? ⟨b, 1, none⟩ = some x1 ∧ w.cell? ⟨b, 2, none⟩ = some x2 ∧ w.cell? ⟨b, 3, none⟩ = some x3 ∧
    w.frozen? ⟨b, 0, none⟩ = false ∧ w.frozen? ⟨b, 1, none⟩ = false ∧ w.frozen? ⟨b, 2, none⟩ = false ∧ w.frozen? ⟨b, 3, none⟩ = false :=
  ⟨by rw [cell_of_blk h]; rfl, by rw [cell_of_blk h]; rfl, by rw [cell_of_blk h]; rfl, by rw [cell_of_blk h]; rfl, frozen_of_blk h _, frozen_of_blk h _, frozen_of_blk h _, frozen_of_blk h _⟩
/-- a store into another block -/
theorem PS.setCell {w : World} {p tb : Nat} {toks : List Tok} {bv : BV} (h : PS w p tb toks bv) {q : Addr} (hq : q.block ≠ p) (hr : q.block ≠ tb) (v : Value) : PS (w.setCell q v) p tb toks bv := by
  obtain ⟨ao, c, h⟩ := h
  exact ⟨ao, c, ⟨(Below.heap_setCell _ _ _ _ (Ne.symm hq)).trans h.blk, h.cap, h.ne, by simpa [World.setCell] using h.lt, h.toks.keep (Below.heap_setCell _ _ _ _ (Ne.symm hr))⟩⟩
theorem PS.alloc {w : World} {p tb : Nat} {toks : List Tok} {bv : BV} (h : PS w p tb toks bv) (o : Obj) : PS (w.alloc o) p tb toks bv := h.keep ((Below.refl _ _).alloc (Nat.le_refl _) o)
set_option maxHeartbeats 400000 in
theorem take_yes (p tb : Nat) (t : Tok) (ts : List Tok) (bv : BV) (k : Int) (w : World) (h : PS w p tb (t :: ts) bv) (hk : (t.k != k) = false) (hk0 : (t.k != 0) = true) (hts : ts ≠ []) :
    Calls Tryz.prog 46 #[.pointer (some ⟨p, 0, none⟩), .int .i64 k] w fun r w' => r = .returned (.agg #[.int .i64 t.k, .string ⟨t.tx.toArray⟩, .int .i64 t.n, .int .i64 t.pos]) ∧ PS w' p tb ts bv ∧ Fr p w w' := by
  have hp := h.plt
  have htb := h.tlt
  have hps0 : ∀ o, PS (w.alloc o) p tb (t :: ts) bv := fun o => h.alloc o
  go_enter Tryz.func46, Tryz.ntmps46
  go_wp2_with (first | (go_at_call 90; refine (kind_yes p tb t ts bv k _ (hps0 _) hk).mono ?_; rintro e w1 ⟨rfl, hb1⟩; have hps1 := (hps0 _).keep hb1) | (go_at_call 91; refine (next_c p tb t ts bv _ hps1 hk0 hts).mono ?_; rintro e w2 ⟨rfl, hps2, hfr⟩; obtain ⟨c0, c1, c2, c3, f0, f1, f2, f3⟩ := box4 (box_after hb1 hfr hp)))
  refine bodyPost_ret (v := .agg #[.int .i64 t.k, .string ⟨t.tx.toArray⟩, .int .i64 t.n, .int .i64 t.pos]) (by simp [results, Tryz.results46, go_sem, c0, c1, c2, c3]) rfl ⟨rfl, ?_, ?_⟩
  · exact (((hps2.setCell (by simp; omega) (by simp; omega) _).setCell (by simp; omega) (by simp; omega) _).setCell (by simp; omega) (by simp; omega) _).setCell (by simp; omega) (by simp; omega) _
  · exact ((((((Fr.refl _ _).alloc _).trans ((Fr.of_below hb1).trans hfr)).setCell (.inl (by simp)) _).setCell (.inl (by simp)) _).setCell (.inl (by simp)) _).setCell (.inl (by simp)) _
set_option maxHeartbeats 400000 in
theorem take_no (p tb : Nat) (t : Tok) (ts : List Tok) (bv : BV) (k : Int) (w : World) (h : PS w p tb (t :: ts) bv) (hk : (t.k != k) = true) :
    Calls Tryz.prog 46 #[.pointer (some ⟨p, 0, none⟩), .int .i64 k] w fun r w' => r = FailV t.pos 18 ∧ Fr p w w' := by
  have hps0 : ∀ o, PS (w.alloc o) p tb (t :: ts) bv := fun o => h.alloc o
  go_enter Tryz.func46, Tryz.ntmps46
  go_wp2_with (first | (go_at_call 90; refine (kind_no p tb t ts bv k _ (hps0 _) hk).mono ?_; rintro e w1 ⟨rfl, hfr⟩))
  exact ⟨rfl, rfl, ((Fr.refl _ _).alloc _).trans hfr⟩
end Go.Proofs.YthpanohdfelkhaaGreatDoor
