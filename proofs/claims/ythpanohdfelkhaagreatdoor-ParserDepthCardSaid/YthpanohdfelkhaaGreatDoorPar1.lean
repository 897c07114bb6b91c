/- The parser's smallest steps: fail, next, is, accept, maybe. The parser's state (PSt) is given; of what lay in memory only the parser's own block changes. -/
import Derived.Test.YthpanohdfelkhaaGreatDoorLex7
namespace Go.Proofs.YthpanohdfelkhaaGreatDoor
open Go.RowKit
/-- the panic by which the parser is left -/
abbrev FailV (at_ c : Int) : Ending := .panicked [{ v := .iface 107 (.agg #[.int .i64 at_, .int .i64 c]), recovered := false }]
def pp (p : Nat) : Value := .pointer (some ⟨p, 0, none⟩)
theorem PSt.c0 {w : World} {p ab ao c : Nat} {toks : List Tok} {bv : BV} (h : PSt w p ab ao c toks bv) : w.cell? ⟨p, 0, none⟩ = some (.slice (some ⟨ab, ao, none⟩) toks.length c) := by rw [cell_of_blk h.blk]; rfl
theorem PSt.fz {w : World} {p ab ao c : Nat} {toks : List Tok} {bv : BV} (h : PSt w p ab ao c toks bv) (o : Nat) : w.frozen? ⟨p, o, none⟩ = false := frozen_of_blk h.blk o
set_option maxHeartbeats 400000 in
theorem fail_at (p ab ao c : Nat) (t : Tok) (ts : List Tok) (bv : BV) (e : Int) (w : World) (h : PSt w p ab ao c (t :: ts) bv) :
    Calls Tryz.prog 89 #[.pointer (some ⟨p, 0, none⟩), .int .i64 e] w fun r w' => r = FailV t.pos e ∧ w = w' := by
  have h0 := h.c0
  simp only [List.length_cons] at h0
  obtain ⟨⟨t0, t1, t2, t3⟩, _⟩ := h.toks
  have hlt : 0 < ts.length + 1 := by omega
  go_enter Tryz.func89, Tryz.ntmps89
  go_wp2_with fail
  exact ⟨rfl, rfl, rfl⟩
theorem setBlk (w : World) (p o : Nat) (v : Value) (cs : Array Value) (ty : TypeId) (f : Nat × Nat) (h : w.heap[p]? = some (.cells cs ty f)) : (w.setCell ⟨p, o, none⟩ v).heap[p]? = some (.cells (cs.setIfInBounds o v) ty f) := by
  simp [World.setCell, Array.getElem?_modify, h]
theorem PSt.moved {w : World} {p ab ao c : Nat} {t : Tok} {ts : List Tok} {bv : BV} (h : PSt w p ab ao c (t :: ts) bv) :
    PSt (w.setCell ⟨p, 0, none⟩ (.slice (some ⟨ab, ao + 4, none⟩) ts.length (c - 1))) p ab (ao + 4) (c - 1) ts bv := by
  have hcap := h.cap
  simp only [List.length_cons] at hcap
  refine ⟨?_, by omega, h.ne, by simpa [World.setCell] using h.lt, h.toks.2.keep (Below.heap_setCell _ _ _ _ h.ne)⟩
  rw [setBlk _ _ _ _ _ _ _ h.blk]; simp
theorem PSt.alloc {w : World} {p ab ao c : Nat} {toks : List Tok} {bv : BV} (h : PSt w p ab ao c toks bv) (o : Obj) : PSt (w.alloc o) p ab ao c toks bv := h.keep ((Below.refl _ _).alloc (Nat.le_refl _) _)
set_option maxHeartbeats 400000 in
theorem next_at (p ab ao c : Nat) (t : Tok) (ts : List Tok) (bv : BV) (w : World) (h : PSt w p ab ao c (t :: ts) bv) (hk : (t.k != 0) = true) (hts : ts ≠ []) :
    Calls Tryz.prog 91 #[.pointer (some ⟨p, 0, none⟩)] w fun r w' => r = .returned (.agg #[.int .i64 t.k, .string ⟨t.tx.toArray⟩, .int .i64 t.n, .int .i64 t.pos]) ∧ PSt w' p ab (ao + 4) (c - 1) ts bv ∧ Fr p w w' := by
  have h0 := h.c0
  have hf := h.fz 0
  have hcap := h.cap
  have hp := h.plt
  have hab := h.lt
  simp only [List.length_cons] at h0 hcap
  obtain ⟨⟨t0, t1, t2, t3⟩, hrest⟩ := h.toks
  have hlt : 0 < ts.length + 1 := by omega
  have hne : 0 < ts.length := List.length_pos_iff.2 hts
  go_enter Tryz.func91, Tryz.ntmps91
  go_wp2_with fail
  exact bodyPost_ret (v := .agg #[.int .i64 t.k, .string ⟨t.tx.toArray⟩, .int .i64 t.n, .int .i64 t.pos]) (by simp [results, Tryz.results91, go_sem]) rfl ⟨rfl, (h.moved.alloc _).alloc _, (((Fr.refl p w).setCell (q := ⟨p, 0, none⟩) (.inr rfl) _).alloc _).alloc _⟩
/-- what '(*parser).is' looks for: the text's place among the words -/
def idxW : List (List UInt8) → List UInt8 → Nat → Int
  | [], _, _ => -1
  | z :: zs, x, i => if z = x then i else idxW zs x (i + 1)
theorem idxW_lib : ∀ (ws : List (List UInt8)) (x : List UInt8) (i : Nat), Lib.idxFromS (ws.map fun l => (⟨l.toArray⟩ : ByteArray)) ⟨x.toArray⟩ i = idxW ws x i
  | [], _, _ => rfl
  | z :: zs, x, i => by
    simp only [List.map_cons, Lib.idxFromS, idxW, idxW_lib zs x (i + 1)]
    have : ((⟨z.toArray⟩ : ByteArray) = ⟨x.toArray⟩) ↔ z = x := ⟨fun h => by injection h with h; simpa using h, fun h => by rw [h]⟩
    by_cases hz : z = x
    · rw [if_pos (this.2 hz), if_pos hz]
    · rw [if_neg (fun h => hz (this.1 h)), if_neg hz]
/-- a text of ASCII letters and its words -/
structure Words (s : ByteArray) (ws : List (List UInt8)) : Prop where
  small : s.size < 1000
  ascii : ∀ (j : Nat) b, s.data.toList[j]? = some b → b.toNat < 128
  words : Lib.fields s.data.toList = ws
theorem fields_c (s : ByteArray) (ws : List (List UInt8)) (w : World) (hG : Glob w) (hw : Words s ws) :
    Calls Tryz.prog 88 #[.string s] w fun e w' => e = .returned (.slice (some ⟨w.heap.size, 0, none⟩) ws.length ws.length) ∧ w' = w.alloc (.cells (ws.map fun l => Value.string ⟨l.toArray⟩).toArray 9) := by
  have := Tryz.strings_Fields s w (by have := hw.small; omega) hw.ascii hG.sp
  rw [hw.words] at this; exact this
theorem index_c (b n c : Nat) (ws : List (List UInt8)) (x : List UInt8) (i : Int) (w : World) (hn : n = ws.length) (hl : ws.length < 1000) (hb : w.heap[b]? = some (.cells (ws.map fun l => Value.string ⟨l.toArray⟩).toArray 9 (0, 0))) (hi : idxW ws x 0 = i) :
    Calls Tryz.prog 76 #[.slice (some ⟨b, 0, none⟩) n c, .string ⟨x.toArray⟩] w fun e w' => e = .returned (.int .i64 i) ∧ w = w' := by
  subst hn
  have := Tryz.slices_Index_string b 0 ws.length c (ws.map fun l => (⟨l.toArray⟩ : ByteArray)) ⟨x.toArray⟩ w (by simp) (by omega) (fun j hj => by
    rw [cell_of_blk hb]
    simp at hj
    simp [hj])
  refine this.mono ?_
  rintro e w' ⟨rfl, rfl⟩
  rw [List.take_of_length_le (by simp)]
  unfold Lib.idxOfS
  rw [idxW_lib, hi]
  exact ⟨rfl, rfl⟩
set_option maxRecDepth 100000 in
set_option maxHeartbeats 400000 in
theorem is_yes1 (p ab ao c : Nat) (t : Tok) (ts : List Tok) (bv : BV) (s : ByteArray) (ws : List (List UInt8)) (i : Int) (w : World) (hG : Glob w) (h : PSt w p ab ao c (t :: ts) bv) (hw : Words s ws) (hl : ws.length < 1000) (hk : t.k = 1) (hi : idxW ws t.tx 0 = i) (hi0 : 0 ≤ i) :
    Calls Tryz.prog 123 #[.pointer (some ⟨p, 0, none⟩), .string s] w fun r w' => r = .returned (.tuple #[.int .i64 i, .bool true]) ∧ Below w.heap.size w w' := by
  have h0 := h.c0
  have hab := h.lt
  simp only [List.length_cons] at h0
  obtain ⟨⟨t0, t1, t2, t3⟩, hrest⟩ := h.toks
  rw [hk] at t0
  have hlt : 0 < ts.length + 1 := by omega
  have Hi := Lib.hid hi; clear hi hk
  have Hblk : ∀ o o', (((w.alloc o).alloc o').drew).heap[w.heap.size + 1]? = some o' := fun o o' => by
    show ((w.alloc o).alloc o').heap[w.heap.size + 1]? = some o'
    have := heap_new (w.alloc o) o'
    simpa using this
  have HG : ∀ o, Glob (w.alloc o).drew := fun o => (hG.alloc o).drew
  clear hG h hrest
  go_enter Tryz.func123, Tryz.ntmps123
  go_wp2_with fail
  go_region_with (first | (go_at_call 88; refine (fields_c s ws _ (HG _) hw).mono ?_; rintro e w' ⟨rfl, rfl⟩) | (go_at_call 76; refine (index_c _ _ _ ws t.tx i _ rfl hl (Hblk _ _) Hi.out).mono ?_; rintro e w' ⟨rfl, rfl⟩))
  all_goals
    go_wp2_with fail
    go_ret2
    exact ⟨by simp; omega, (((Below.refl _ _).alloc (Nat.le_refl _) _).alloc (by simp) _).drew⟩
set_option maxRecDepth 100000 in
set_option maxHeartbeats 400000 in
theorem is_yes8 (p ab ao c : Nat) (t : Tok) (ts : List Tok) (bv : BV) (s : ByteArray) (ws : List (List UInt8)) (i : Int) (w : World) (hG : Glob w) (h : PSt w p ab ao c (t :: ts) bv) (hw : Words s ws) (hl : ws.length < 1000) (hk : t.k = 8) (hi : idxW ws t.tx 0 = i) (hi0 : 0 ≤ i) :
    Calls Tryz.prog 123 #[.pointer (some ⟨p, 0, none⟩), .string s] w fun r w' => r = .returned (.tuple #[.int .i64 i, .bool true]) ∧ Below w.heap.size w w' := by
  have h0 := h.c0
  have hab := h.lt
  simp only [List.length_cons] at h0
  obtain ⟨⟨t0, t1, t2, t3⟩, hrest⟩ := h.toks
  rw [hk] at t0
  have hlt : 0 < ts.length + 1 := by omega
  have Hi := Lib.hid hi; clear hi hk
  have Hblk : ∀ o o', (((w.alloc o).alloc o').drew).heap[w.heap.size + 1]? = some o' := fun o o' => by
    show ((w.alloc o).alloc o').heap[w.heap.size + 1]? = some o'
    have := heap_new (w.alloc o) o'
    simpa using this
  have HG : ∀ o, Glob (w.alloc o).drew := fun o => (hG.alloc o).drew
  clear hG h hrest
  go_enter Tryz.func123, Tryz.ntmps123
  go_wp2_with fail
  go_region_with (first | (go_at_call 88; refine (fields_c s ws _ (HG _) hw).mono ?_; rintro e w' ⟨rfl, rfl⟩) | (go_at_call 76; refine (index_c _ _ _ ws t.tx i _ rfl hl (Hblk _ _) Hi.out).mono ?_; rintro e w' ⟨rfl, rfl⟩))
  all_goals
    go_wp2_with fail
    go_ret2
    exact ⟨by simp; omega, (((Below.refl _ _).alloc (Nat.le_refl _) _).alloc (by simp) _).drew⟩
set_option maxRecDepth 100000 in
set_option maxHeartbeats 400000 in
theorem is_no1 (p ab ao c : Nat) (t : Tok) (ts : List Tok) (bv : BV) (s : ByteArray) (ws : List (List UInt8)) (i : Int) (w : World) (hG : Glob w) (h : PSt w p ab ao c (t :: ts) bv) (hw : Words s ws) (hl : ws.length < 1000) (hk : t.k = 1) (hi : idxW ws t.tx 0 = i) (hi0 : i = -1) :
    Calls Tryz.prog 123 #[.pointer (some ⟨p, 0, none⟩), .string s] w fun r w' => r = .returned (.tuple #[.int .i64 0, .bool false]) ∧ Below w.heap.size w w' := by
  have h0 := h.c0
  have hab := h.lt
  simp only [List.length_cons] at h0
  obtain ⟨⟨t0, t1, t2, t3⟩, hrest⟩ := h.toks
  rw [hk] at t0
  have hlt : 0 < ts.length + 1 := by omega
  subst hi0
  have Hi := Lib.hid hi; clear hi hk
  have Hblk : ∀ o o', (((w.alloc o).alloc o').drew).heap[w.heap.size + 1]? = some o' := fun o o' => by
    show ((w.alloc o).alloc o').heap[w.heap.size + 1]? = some o'
    have := heap_new (w.alloc o) o'
    simpa using this
  have HG : ∀ o, Glob (w.alloc o).drew := fun o => (hG.alloc o).drew
  clear hG h hrest
  go_enter Tryz.func123, Tryz.ntmps123
  go_wp2_with fail
  go_region_with (first | (go_at_call 88; refine (fields_c s ws _ (HG _) hw).mono ?_; rintro e w' ⟨rfl, rfl⟩) | (go_at_call 76; refine (index_c _ _ _ ws t.tx (-1) _ rfl hl (Hblk _ _) Hi.out).mono ?_; rintro e w' ⟨rfl, rfl⟩))
  all_goals
    go_wp2_with fail
    go_ret2
    exact ⟨by simp; decide, (((Below.refl _ _).alloc (Nat.le_refl _) _).alloc (by simp) _).drew⟩
set_option maxRecDepth 100000 in
set_option maxHeartbeats 400000 in
theorem is_no8 (p ab ao c : Nat) (t : Tok) (ts : List Tok) (bv : BV) (s : ByteArray) (ws : List (List UInt8)) (i : Int) (w : World) (hG : Glob w) (h : PSt w p ab ao c (t :: ts) bv) (hw : Words s ws) (hl : ws.length < 1000) (hk : t.k = 8) (hi : idxW ws t.tx 0 = i) (hi0 : i = -1) :
    Calls Tryz.prog 123 #[.pointer (some ⟨p, 0, none⟩), .string s] w fun r w' => r = .returned (.tuple #[.int .i64 0, .bool false]) ∧ Below w.heap.size w w' := by
  have h0 := h.c0
  have hab := h.lt
  simp only [List.length_cons] at h0
  obtain ⟨⟨t0, t1, t2, t3⟩, hrest⟩ := h.toks
  rw [hk] at t0
  have hlt : 0 < ts.length + 1 := by omega
  subst hi0
  have Hi := Lib.hid hi; clear hi hk
  have Hblk : ∀ o o', (((w.alloc o).alloc o').drew).heap[w.heap.size + 1]? = some o' := fun o o' => by
    show ((w.alloc o).alloc o').heap[w.heap.size + 1]? = some o'
    have := heap_new (w.alloc o) o'
    simpa using this
  have HG : ∀ o, Glob (w.alloc o).drew := fun o => (hG.alloc o).drew
  clear hG h hrest
  go_enter Tryz.func123, Tryz.ntmps123
  go_wp2_with fail
  go_region_with (first | (go_at_call 88; refine (fields_c s ws _ (HG _) hw).mono ?_; rintro e w' ⟨rfl, rfl⟩) | (go_at_call 76; refine (index_c _ _ _ ws t.tx (-1) _ rfl hl (Hblk _ _) Hi.out).mono ?_; rintro e w' ⟨rfl, rfl⟩))
  all_goals
    go_wp2_with fail
    go_ret2
    exact ⟨by simp; decide, (((Below.refl _ _).alloc (Nat.le_refl _) _).alloc (by simp) _).drew⟩
set_option maxHeartbeats 400000 in
theorem is_other (p ab ao c : Nat) (t : Tok) (ts : List Tok) (bv : BV) (s : ByteArray) (w : World) (h : PSt w p ab ao c (t :: ts) bv) (hk1 : (t.k != 1) = true) (hk8 : (t.k != 8) = true) :
    Calls Tryz.prog 123 #[.pointer (some ⟨p, 0, none⟩), .string s] w fun r w' => r = .returned (.tuple #[.int .i64 0, .bool false]) ∧ Below w.heap.size w w' := by
  have h0 := h.c0
  have hab := h.lt
  simp only [List.length_cons] at h0
  obtain ⟨⟨t0, t1, t2, t3⟩, hrest⟩ := h.toks
  have hlt : 0 < ts.length + 1 := by omega
  clear h hrest
  go_enter Tryz.func123, Tryz.ntmps123
  go_wp2_with fail
  go_ret2
  exact ⟨rfl, (Below.refl _ _).alloc (Nat.le_refl _) _⟩
end Go.Proofs.YthpanohdfelkhaaGreatDoor
