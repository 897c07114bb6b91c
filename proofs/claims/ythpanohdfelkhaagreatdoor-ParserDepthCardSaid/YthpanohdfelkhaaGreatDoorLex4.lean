/- lexer.scan: it returns Lx.scan; nothing that lay in memory is changed. Strings up to 10^9 bytes. -/
import Derived.Test.YthpanohdfelkhaaGreatDoorLex3
namespace Go.Proofs.YthpanohdfelkhaaGreatDoor
open Go.RowKit
def Tok.agg (t : Tok) : Value := .agg #[.int .i64 t.k, .string ⟨t.tx.toArray⟩, .int .i64 t.n, .int .i64 t.pos]
def ScanPost (r : Except Int (Tok × Nat)) (e : Ending) : Prop :=
  match r with
  | .ok x => e = .returned (.tuple #[x.1.agg, .int .i64 (x.2 : Nat), .int .i64 0])
  | .error c => ∃ (t : Tok) (q : Int), e = .returned (.tuple #[t.agg, .int .i64 q, .int .i64 c])
theorem number_ok (s : ByteArray) (most n : Int) (w : World) (hG : Glob w) (hs : s.size ≤ 1000000000) (h : Lx.number s.data.toList most = .ok n) :
    Calls Tryz.prog 130 #[.string s, .int .i64 most] w fun e w' => e = .returned (.tuple #[.int .i64 n, .int .i64 0]) ∧ Below w.heap.size w w' := number_is s most _ w hG hs h
theorem number_err (s : ByteArray) (most c : Int) (w : World) (hG : Glob w) (hs : s.size ≤ 1000000000) (h : Lx.number s.data.toList most = .error c) :
    Calls Tryz.prog 130 #[.string s, .int .i64 most] w fun e w' => e = .returned (.tuple #[.int .i64 0, .int .i64 c]) ∧ Below w.heap.size w w' := number_is s most _ w hG hs h
theorem zero_int (w : World) : (zeroValue 3).run Tryz.prog w = .ok (.int .i64 0) w := by kernel_rfl
theorem sign_hit (w : World) (c : UInt8) (k : Int) (hk : Lx.sign c = some k) (o1 o2 : Obj) :
    (Instr.lookup 197 (.map (some (w.heap.size + 1 + 1))) (.int .u8 (c.toNat : Int)) true).run Tryz.prog (((w.alloc o1).alloc o2).alloc (.map signEs 6)) = .ok (.tuple #[.int .i64 k, .bool true]) (((w.alloc o1).alloc o2).alloc (.map signEs 6)) := by
  have h := sign_find c
  rw [hk] at h
  refine run_lookup_hit 197 5 3 (.int .u8) _ _ signEs 6 _ _ _ Tryz.underlying197 Tryz.underlying5 rfl ?_ h
  have := heap_new ((w.alloc o1).alloc o2) (.map signEs 6)
  simpa using this
theorem sign_miss (w : World) (c : UInt8) (hk : Lx.sign c = none) (o1 o2 : Obj) :
    (Instr.lookup 197 (.map (some (w.heap.size + 1 + 1))) (.int .u8 (c.toNat : Int)) true).run Tryz.prog (((w.alloc o1).alloc o2).alloc (.map signEs 6)) = .ok (.tuple #[.int .i64 0, .bool false]) (((w.alloc o1).alloc o2).alloc (.map signEs 6)) := by
  have h := sign_find c
  rw [hk] at h
  refine run_lookup_miss 197 5 3 (.int .u8) _ signEs 6 _ _ _ Tryz.underlying197 Tryz.underlying5 rfl ?_ h (zero_int _)
  have := heap_new ((w.alloc o1).alloc o2) (.map signEs 6)
  simpa using this
theorem extract_sub (s : ByteArray) (a b : Nat) : (s.extract a b).data.toList = Lx.sub s.data.toList a b := Lib.extract_data s a b
theorem extract_one (s : ByteArray) (a : Nat) (h : a < s.size) : s.extract a (a + 1) = ⟨[s[a]].toArray⟩ := by
  apply ByteArray.ext
  apply Array.ext'
  rw [Lib.extract_data]
  have h1 : a < s.data.toList.length := by rw [size_list]; exact h
  rw [List.drop_eq_getElem_cons h1]
  have := getElem_list s a h
  rw [List.getElem?_eq_getElem h1] at this
  injection this with this
  simp [this]
set_option maxRecDepth 100000 in
set_option maxHeartbeats 400000 in
theorem scan_punct (s : ByteArray) (a : Nat) (w : World) (hs : s.size ≤ 1000000000) (ha : a < s.size) (hp : Lx.isIn Lx.puncts s[a] = true) :
    Calls Tryz.prog 87 #[.string s, .int .i64 a] w fun e w' => e = .returned (.tuple #[Tok.agg ⟨8, [s[a]], 0, a⟩, .int .i64 ((a + 1 : Nat) : Int), .int .i64 0]) ∧ Below w.heap.size w w' := by
  have ha' : (a : Int) < s.size := by omega
  have hge : 0 ≤ Lib.indexByte Lx.puncts s[a] := by simpa [Lx.isIn] using hp
  obtain ⟨v, hv⟩ : ∃ v, Lib.indexByte Lx.puncts s[a] = v := ⟨_, rfl⟩
  rw [hv] at hge
  have Hv : Hid (Lib.indexByte (⟨#[123, 125, 40, 41, 44, 59, 58, 61, 38, 46, 42]⟩ : ByteArray).data.toList ((s[a].toNat : Int)).toNat.toUInt8 = v) := by rw [toNat_u8]; exact hv
  clear hv hp
  have hex := extract_one s a ha
  go_enter Tryz.func87, Tryz.ntmps87
  go_wp2_with (first | (go_at_call 86; refine (indexByte_is _ _ v _ Hv.out).mono ?_; rintro e w' ⟨rfl, rfl⟩))
  exact bodyPost_ret (v := .tuple #[Tok.agg ⟨8, [s[a]], 0, a⟩, .int .i64 ((a + 1 : Nat) : Int), .int .i64 0]) (by simp [results, Tryz.results87, go_sem, Tok.agg]) rfl ⟨rfl, ((Below.refl _ _).alloc (Nat.le_refl _) _).alloc (by simp) _⟩
/-- the sign at the token's begin: its kind and where the text behind it begins -/
def Sel (c : UInt8) (a : Nat) (k : Int) (fr : Nat) : Prop := (Lx.sign c = some k ∧ fr = a + 1) ∨ (Lx.sign c = none ∧ Lx.isIn Lx.digits c = true ∧ k = 2 ∧ fr = a) ∨ (Lx.sign c = none ∧ Lx.isIn Lx.digits c = false ∧ k = 1 ∧ fr = a)
def numText (s : List UInt8) (a fr n : Nat) (k : Int) : List UInt8 := if k = 2 then Lx.sub s a (fr + n) else Lx.sub s fr (fr + n)
def numMost (k : Int) : Int := if k = 2 then 9223372036854775807 else 65535
def numEnd (a : Nat) (k : Int) (r : Except Int Int) (q : Nat) : Value :=
  match r with
  | .ok m => .tuple #[Tok.agg ⟨k, [], m, a⟩, .int .i64 (q : Int), .int .i64 0]
  | .error c => .tuple #[Tok.agg ⟨k, [], 0, a⟩, .int .i64 (q : Int), .int .i64 c]
theorem scan_cells (w : World) (o1 o2 o3 : Obj) (w1 : World) (hb : Below (((w.alloc o1).alloc o2).alloc o3).heap.size (((w.alloc o1).alloc o2).alloc o3) w1) (ho : o1 = .cells #[.int .i64 0, .string ⟨#[]⟩, .int .i64 0, .int .i64 0] 110) :
      w1.cell? ⟨w.heap.size, 0, none⟩ = some (.int .i64 0) ∧ w1.cell? ⟨w.heap.size, 1, none⟩ = some (.string ⟨#[]⟩) ∧ w1.cell? ⟨w.heap.size, 2, none⟩ = some (.int .i64 0) ∧ w1.cell? ⟨w.heap.size, 3, none⟩ = some (.int .i64 0) ∧ Below w.heap.size w w1 := by
  subst ho
  obtain ⟨hc1, _⟩ := bcell hb
  refine ⟨?_, ?_, ?_, ?_, ?_⟩
  iterate 4 (rw [hc1 _ _ (by simp; omega)]; simp [go_sem])
  exact ((((Below.refl _ _).alloc (Nat.le_refl _) _).alloc (by simp) _).alloc (by simp; omega) _).trans (hb.mono (by simp; omega))
set_option maxRecDepth 100000 in
set_option maxHeartbeats 1000000 in
theorem scan_num_sign2_ok (s : ByteArray) (a n : Nat) (m : Int) (w : World) (hG3 : ∀ o1 o2 o3, Glob (((w.alloc o1).alloc o2).alloc o3)) (hs : s.size ≤ 1000000000) (ha : a < s.size) (ha' : (a : Int) < s.size) (hge1 : Lib.indexByte [123, 125, 40, 41, 44, 59, 58, 61, 38, 46, 42] s[a] < 0) (hk : Lx.sign s[a] = some 2)
    (hle' : ((a + 1) : Int) + n ≤ s.size) (Hn : Hid (Lx.span s.data.toList (a + 1) Lx.digits = n)) (hsz : (s.extract a ((a + 1) + n)).size ≤ 1000000000) (Hr : Hid (Lx.number (s.extract a ((a + 1) + n)).data.toList 9223372036854775807 = .ok m)) :
    Calls Tryz.prog 87 #[.string s, .int .i64 a] w fun e w' => e = .returned (numEnd a 2 (.ok m) ((a + 1) + n)) ∧ Below w.heap.size w w' := by
  have hlk := sign_hit w s[a] 2 hk
  clear hk
  go_enter Tryz.func87, Tryz.ntmps87
  go_wp2_with (first | (go_at_call 86; refine (indexByte_c _ _ _).mono ?_; rintro e w' ⟨rfl, rfl⟩) | (go_at_call 129; refine (signs_any _).mono ?_; rintro e w' ⟨rfl, rfl⟩) | (go_at_call 128; refine (span_is s (a + 1) _ n _ hs ha Hn.out).mono ?_; rintro e w' ⟨rfl, rfl⟩) | (go_at_call 130; refine (number_ok _ _ _ _ (hG3 _ _ _) hsz Hr.out).mono ?_; rintro e w1 ⟨rfl, hb⟩; obtain ⟨hc1, hf1⟩ := bcell hb; have hz1 : w.heap.size + 2 < w1.heap.size := by have := hb.size; simp at this; omega))
  obtain ⟨c0, c1, c2, c3, h0⟩ := scan_cells _ _ _ _ _ hb rfl
  refine bodyPost_ret (v := numEnd a 2 (.ok m) ((a + 1) + n)) (by simp [results, Tryz.results87, go_sem, numEnd, Tok.agg, c0, c1, c2, c3]) rfl ⟨rfl, ?_⟩
  exact (((((h0.setCell (by simp) _).setCell (by simp) _).setCell (by simp) _).setCell (by simp) _).setCell (by simp) _)
set_option maxRecDepth 100000 in
set_option maxHeartbeats 1000000 in
theorem scan_num_sign2_err (s : ByteArray) (a n : Nat) (m : Int) (w : World) (hG3 : ∀ o1 o2 o3, Glob (((w.alloc o1).alloc o2).alloc o3)) (hs : s.size ≤ 1000000000) (ha : a < s.size) (ha' : (a : Int) < s.size) (hge1 : Lib.indexByte [123, 125, 40, 41, 44, 59, 58, 61, 38, 46, 42] s[a] < 0) (hk : Lx.sign s[a] = some 2)
    (hle' : ((a + 1) : Int) + n ≤ s.size) (Hn : Hid (Lx.span s.data.toList (a + 1) Lx.digits = n)) (hsz : (s.extract a ((a + 1) + n)).size ≤ 1000000000) (Hr : Hid (Lx.number (s.extract a ((a + 1) + n)).data.toList 9223372036854775807 = .error m)) :
    Calls Tryz.prog 87 #[.string s, .int .i64 a] w fun e w' => e = .returned (numEnd a 2 (.error m) ((a + 1) + n)) ∧ Below w.heap.size w w' := by
  have hlk := sign_hit w s[a] 2 hk
  clear hk
  go_enter Tryz.func87, Tryz.ntmps87
  go_wp2_with (first | (go_at_call 86; refine (indexByte_c _ _ _).mono ?_; rintro e w' ⟨rfl, rfl⟩) | (go_at_call 129; refine (signs_any _).mono ?_; rintro e w' ⟨rfl, rfl⟩) | (go_at_call 128; refine (span_is s (a + 1) _ n _ hs ha Hn.out).mono ?_; rintro e w' ⟨rfl, rfl⟩) | (go_at_call 130; refine (number_err _ _ _ _ (hG3 _ _ _) hsz Hr.out).mono ?_; rintro e w1 ⟨rfl, hb⟩; obtain ⟨hc1, hf1⟩ := bcell hb; have hz1 : w.heap.size + 2 < w1.heap.size := by have := hb.size; simp at this; omega))
  obtain ⟨c0, c1, c2, c3, h0⟩ := scan_cells _ _ _ _ _ hb rfl
  refine bodyPost_ret (v := numEnd a 2 (.error m) ((a + 1) + n)) (by simp [results, Tryz.results87, go_sem, numEnd, Tok.agg, c0, c1, c2, c3]) rfl ⟨rfl, ?_⟩
  exact (((((h0.setCell (by simp) _).setCell (by simp) _).setCell (by simp) _).setCell (by simp) _).setCell (by simp) _)
set_option maxRecDepth 100000 in
set_option maxHeartbeats 1000000 in
theorem scan_num_digit2_ok (s : ByteArray) (a n : Nat) (m : Int) (w : World) (hG3 : ∀ o1 o2 o3, Glob (((w.alloc o1).alloc o2).alloc o3)) (hs : s.size ≤ 1000000000) (ha : a < s.size) (ha' : (a : Int) < s.size) (hge1 : Lib.indexByte [123, 125, 40, 41, 44, 59, 58, 61, 38, 46, 42] s[a] < 0) (hk : Lx.sign s[a] = none) (hge2 : 0 ≤ Lib.indexByte [48, 49, 50, 51, 52, 53, 54, 55, 56, 57] s[a])
    (hle' : (a : Int) + n ≤ s.size) (Hn : Hid (Lx.span s.data.toList a Lx.digits = n)) (hsz : (s.extract a (a + n)).size ≤ 1000000000) (Hr : Hid (Lx.number (s.extract a (a + n)).data.toList 9223372036854775807 = .ok m)) :
    Calls Tryz.prog 87 #[.string s, .int .i64 a] w fun e w' => e = .returned (numEnd a 2 (.ok m) (a + n)) ∧ Below w.heap.size w w' := by
  have hlk := sign_miss w s[a] hk
  clear hk
  go_enter Tryz.func87, Tryz.ntmps87
  go_wp2_with (first | (go_at_call 86; refine (indexByte_c _ _ _).mono ?_; rintro e w' ⟨rfl, rfl⟩) | (go_at_call 129; refine (signs_any _).mono ?_; rintro e w' ⟨rfl, rfl⟩) | (go_at_call 128; refine (span_is s a _ n _ hs (Nat.le_of_lt ha) Hn.out).mono ?_; rintro e w' ⟨rfl, rfl⟩) | (go_at_call 130; refine (number_ok _ _ _ _ (hG3 _ _ _) hsz Hr.out).mono ?_; rintro e w1 ⟨rfl, hb⟩; obtain ⟨hc1, hf1⟩ := bcell hb; have hz1 : w.heap.size + 2 < w1.heap.size := by have := hb.size; simp at this; omega))
  obtain ⟨c0, c1, c2, c3, h0⟩ := scan_cells _ _ _ _ _ hb rfl
  refine bodyPost_ret (v := numEnd a 2 (.ok m) (a + n)) (by simp [results, Tryz.results87, go_sem, numEnd, Tok.agg, c0, c1, c2, c3]) rfl ⟨rfl, ?_⟩
  exact (((((h0.setCell (by simp) _).setCell (by simp) _).setCell (by simp) _).setCell (by simp) _).setCell (by simp) _)
set_option maxRecDepth 100000 in
set_option maxHeartbeats 1000000 in
theorem scan_num_digit2_err (s : ByteArray) (a n : Nat) (m : Int) (w : World) (hG3 : ∀ o1 o2 o3, Glob (((w.alloc o1).alloc o2).alloc o3)) (hs : s.size ≤ 1000000000) (ha : a < s.size) (ha' : (a : Int) < s.size) (hge1 : Lib.indexByte [123, 125, 40, 41, 44, 59, 58, 61, 38, 46, 42] s[a] < 0) (hk : Lx.sign s[a] = none) (hge2 : 0 ≤ Lib.indexByte [48, 49, 50, 51, 52, 53, 54, 55, 56, 57] s[a])
    (hle' : (a : Int) + n ≤ s.size) (Hn : Hid (Lx.span s.data.toList a Lx.digits = n)) (hsz : (s.extract a (a + n)).size ≤ 1000000000) (Hr : Hid (Lx.number (s.extract a (a + n)).data.toList 9223372036854775807 = .error m)) :
    Calls Tryz.prog 87 #[.string s, .int .i64 a] w fun e w' => e = .returned (numEnd a 2 (.error m) (a + n)) ∧ Below w.heap.size w w' := by
  have hlk := sign_miss w s[a] hk
  clear hk
  go_enter Tryz.func87, Tryz.ntmps87
  go_wp2_with (first | (go_at_call 86; refine (indexByte_c _ _ _).mono ?_; rintro e w' ⟨rfl, rfl⟩) | (go_at_call 129; refine (signs_any _).mono ?_; rintro e w' ⟨rfl, rfl⟩) | (go_at_call 128; refine (span_is s a _ n _ hs (Nat.le_of_lt ha) Hn.out).mono ?_; rintro e w' ⟨rfl, rfl⟩) | (go_at_call 130; refine (number_err _ _ _ _ (hG3 _ _ _) hsz Hr.out).mono ?_; rintro e w1 ⟨rfl, hb⟩; obtain ⟨hc1, hf1⟩ := bcell hb; have hz1 : w.heap.size + 2 < w1.heap.size := by have := hb.size; simp at this; omega))
  obtain ⟨c0, c1, c2, c3, h0⟩ := scan_cells _ _ _ _ _ hb rfl
  refine bodyPost_ret (v := numEnd a 2 (.error m) (a + n)) (by simp [results, Tryz.results87, go_sem, numEnd, Tok.agg, c0, c1, c2, c3]) rfl ⟨rfl, ?_⟩
  exact (((((h0.setCell (by simp) _).setCell (by simp) _).setCell (by simp) _).setCell (by simp) _).setCell (by simp) _)
set_option maxRecDepth 100000 in
set_option maxHeartbeats 1000000 in
theorem scan_num_sign6_ok (s : ByteArray) (a n : Nat) (m : Int) (w : World) (hG3 : ∀ o1 o2 o3, Glob (((w.alloc o1).alloc o2).alloc o3)) (hs : s.size ≤ 1000000000) (ha : a < s.size) (ha' : (a : Int) < s.size) (hge1 : Lib.indexByte [123, 125, 40, 41, 44, 59, 58, 61, 38, 46, 42] s[a] < 0) (hk : Lx.sign s[a] = some 6)
    (hle' : ((a + 1) : Int) + n ≤ s.size) (Hn : Hid (Lx.span s.data.toList (a + 1) Lx.digits = n)) (hsz : (s.extract (a + 1) ((a + 1) + n)).size ≤ 1000000000) (Hr : Hid (Lx.number (s.extract (a + 1) ((a + 1) + n)).data.toList 65535 = .ok m)) :
    Calls Tryz.prog 87 #[.string s, .int .i64 a] w fun e w' => e = .returned (numEnd a 6 (.ok m) ((a + 1) + n)) ∧ Below w.heap.size w w' := by
  have hlk := sign_hit w s[a] 6 hk
  clear hk
  go_enter Tryz.func87, Tryz.ntmps87
  go_wp2_with (first | (go_at_call 86; refine (indexByte_c _ _ _).mono ?_; rintro e w' ⟨rfl, rfl⟩) | (go_at_call 129; refine (signs_any _).mono ?_; rintro e w' ⟨rfl, rfl⟩) | (go_at_call 128; refine (span_is s (a + 1) _ n _ hs ha Hn.out).mono ?_; rintro e w' ⟨rfl, rfl⟩) | (go_at_call 130; refine (number_ok _ _ _ _ (hG3 _ _ _) hsz Hr.out).mono ?_; rintro e w1 ⟨rfl, hb⟩; obtain ⟨hc1, hf1⟩ := bcell hb; have hz1 : w.heap.size + 2 < w1.heap.size := by have := hb.size; simp at this; omega))
  obtain ⟨c0, c1, c2, c3, h0⟩ := scan_cells _ _ _ _ _ hb rfl
  refine bodyPost_ret (v := numEnd a 6 (.ok m) ((a + 1) + n)) (by simp [results, Tryz.results87, go_sem, numEnd, Tok.agg, c0, c1, c2, c3]) rfl ⟨rfl, ?_⟩
  exact (((((h0.setCell (by simp) _).setCell (by simp) _).setCell (by simp) _).setCell (by simp) _).setCell (by simp) _)
set_option maxRecDepth 100000 in
set_option maxHeartbeats 1000000 in
theorem scan_num_sign6_err (s : ByteArray) (a n : Nat) (m : Int) (w : World) (hG3 : ∀ o1 o2 o3, Glob (((w.alloc o1).alloc o2).alloc o3)) (hs : s.size ≤ 1000000000) (ha : a < s.size) (ha' : (a : Int) < s.size) (hge1 : Lib.indexByte [123, 125, 40, 41, 44, 59, 58, 61, 38, 46, 42] s[a] < 0) (hk : Lx.sign s[a] = some 6)
    (hle' : ((a + 1) : Int) + n ≤ s.size) (Hn : Hid (Lx.span s.data.toList (a + 1) Lx.digits = n)) (hsz : (s.extract (a + 1) ((a + 1) + n)).size ≤ 1000000000) (Hr : Hid (Lx.number (s.extract (a + 1) ((a + 1) + n)).data.toList 65535 = .error m)) :
    Calls Tryz.prog 87 #[.string s, .int .i64 a] w fun e w' => e = .returned (numEnd a 6 (.error m) ((a + 1) + n)) ∧ Below w.heap.size w w' := by
  have hlk := sign_hit w s[a] 6 hk
  clear hk
  go_enter Tryz.func87, Tryz.ntmps87
  go_wp2_with (first | (go_at_call 86; refine (indexByte_c _ _ _).mono ?_; rintro e w' ⟨rfl, rfl⟩) | (go_at_call 129; refine (signs_any _).mono ?_; rintro e w' ⟨rfl, rfl⟩) | (go_at_call 128; refine (span_is s (a + 1) _ n _ hs ha Hn.out).mono ?_; rintro e w' ⟨rfl, rfl⟩) | (go_at_call 130; refine (number_err _ _ _ _ (hG3 _ _ _) hsz Hr.out).mono ?_; rintro e w1 ⟨rfl, hb⟩; obtain ⟨hc1, hf1⟩ := bcell hb; have hz1 : w.heap.size + 2 < w1.heap.size := by have := hb.size; simp at this; omega))
  obtain ⟨c0, c1, c2, c3, h0⟩ := scan_cells _ _ _ _ _ hb rfl
  refine bodyPost_ret (v := numEnd a 6 (.error m) ((a + 1) + n)) (by simp [results, Tryz.results87, go_sem, numEnd, Tok.agg, c0, c1, c2, c3]) rfl ⟨rfl, ?_⟩
  exact (((((h0.setCell (by simp) _).setCell (by simp) _).setCell (by simp) _).setCell (by simp) _).setCell (by simp) _)
set_option maxRecDepth 100000 in
set_option maxHeartbeats 1000000 in
theorem scan_num_sign7_ok (s : ByteArray) (a n : Nat) (m : Int) (w : World) (hG3 : ∀ o1 o2 o3, Glob (((w.alloc o1).alloc o2).alloc o3)) (hs : s.size ≤ 1000000000) (ha : a < s.size) (ha' : (a : Int) < s.size) (hge1 : Lib.indexByte [123, 125, 40, 41, 44, 59, 58, 61, 38, 46, 42] s[a] < 0) (hk : Lx.sign s[a] = some 7)
    (hle' : ((a + 1) : Int) + n ≤ s.size) (Hn : Hid (Lx.span s.data.toList (a + 1) Lx.digits = n)) (hsz : (s.extract (a + 1) ((a + 1) + n)).size ≤ 1000000000) (Hr : Hid (Lx.number (s.extract (a + 1) ((a + 1) + n)).data.toList 65535 = .ok m)) :
    Calls Tryz.prog 87 #[.string s, .int .i64 a] w fun e w' => e = .returned (numEnd a 7 (.ok m) ((a + 1) + n)) ∧ Below w.heap.size w w' := by
  have hlk := sign_hit w s[a] 7 hk
  clear hk
  go_enter Tryz.func87, Tryz.ntmps87
  go_wp2_with (first | (go_at_call 86; refine (indexByte_c _ _ _).mono ?_; rintro e w' ⟨rfl, rfl⟩) | (go_at_call 129; refine (signs_any _).mono ?_; rintro e w' ⟨rfl, rfl⟩) | (go_at_call 128; refine (span_is s (a + 1) _ n _ hs ha Hn.out).mono ?_; rintro e w' ⟨rfl, rfl⟩) | (go_at_call 130; refine (number_ok _ _ _ _ (hG3 _ _ _) hsz Hr.out).mono ?_; rintro e w1 ⟨rfl, hb⟩; obtain ⟨hc1, hf1⟩ := bcell hb; have hz1 : w.heap.size + 2 < w1.heap.size := by have := hb.size; simp at this; omega))
  obtain ⟨c0, c1, c2, c3, h0⟩ := scan_cells _ _ _ _ _ hb rfl
  refine bodyPost_ret (v := numEnd a 7 (.ok m) ((a + 1) + n)) (by simp [results, Tryz.results87, go_sem, numEnd, Tok.agg, c0, c1, c2, c3]) rfl ⟨rfl, ?_⟩
  exact (((((h0.setCell (by simp) _).setCell (by simp) _).setCell (by simp) _).setCell (by simp) _).setCell (by simp) _)
set_option maxRecDepth 100000 in
set_option maxHeartbeats 1000000 in
theorem scan_num_sign7_err (s : ByteArray) (a n : Nat) (m : Int) (w : World) (hG3 : ∀ o1 o2 o3, Glob (((w.alloc o1).alloc o2).alloc o3)) (hs : s.size ≤ 1000000000) (ha : a < s.size) (ha' : (a : Int) < s.size) (hge1 : Lib.indexByte [123, 125, 40, 41, 44, 59, 58, 61, 38, 46, 42] s[a] < 0) (hk : Lx.sign s[a] = some 7)
    (hle' : ((a + 1) : Int) + n ≤ s.size) (Hn : Hid (Lx.span s.data.toList (a + 1) Lx.digits = n)) (hsz : (s.extract (a + 1) ((a + 1) + n)).size ≤ 1000000000) (Hr : Hid (Lx.number (s.extract (a + 1) ((a + 1) + n)).data.toList 65535 = .error m)) :
    Calls Tryz.prog 87 #[.string s, .int .i64 a] w fun e w' => e = .returned (numEnd a 7 (.error m) ((a + 1) + n)) ∧ Below w.heap.size w w' := by
  have hlk := sign_hit w s[a] 7 hk
  clear hk
  go_enter Tryz.func87, Tryz.ntmps87
  go_wp2_with (first | (go_at_call 86; refine (indexByte_c _ _ _).mono ?_; rintro e w' ⟨rfl, rfl⟩) | (go_at_call 129; refine (signs_any _).mono ?_; rintro e w' ⟨rfl, rfl⟩) | (go_at_call 128; refine (span_is s (a + 1) _ n _ hs ha Hn.out).mono ?_; rintro e w' ⟨rfl, rfl⟩) | (go_at_call 130; refine (number_err _ _ _ _ (hG3 _ _ _) hsz Hr.out).mono ?_; rintro e w1 ⟨rfl, hb⟩; obtain ⟨hc1, hf1⟩ := bcell hb; have hz1 : w.heap.size + 2 < w1.heap.size := by have := hb.size; simp at this; omega))
  obtain ⟨c0, c1, c2, c3, h0⟩ := scan_cells _ _ _ _ _ hb rfl
  refine bodyPost_ret (v := numEnd a 7 (.error m) ((a + 1) + n)) (by simp [results, Tryz.results87, go_sem, numEnd, Tok.agg, c0, c1, c2, c3]) rfl ⟨rfl, ?_⟩
  exact (((((h0.setCell (by simp) _).setCell (by simp) _).setCell (by simp) _).setCell (by simp) _).setCell (by simp) _)

end Go.Proofs.YthpanohdfelkhaaGreatDoor
