/- lexer.scan at words: what it returns. Strings up to 10^9 bytes. -/
import Derived.Test.YthpanohdfelkhaaGreatDoorLex4
namespace Go.Proofs.YthpanohdfelkhaaGreatDoor
open Go.RowKit
theorem letters_span (s : ByteArray) (q : Int) (a n : Nat) (w : World) (hq : q = a) (hs : s.size ≤ 1000000000) (ha : a ≤ s.size) (hn : Lx.span s.data.toList a Lx.letters = n) :
    Calls Tryz.prog 128 #[.string s, .int .i64 q, .string ⟨#[95, 97, 98, 99, 100, 101, 102, 103, 104, 105, 106, 107, 108, 109, 110, 111, 112, 113, 114, 115, 116, 117, 118, 119, 120, 121, 122, 65, 66, 67, 68, 69, 70, 71, 72, 73, 74, 75, 76, 77, 78, 79, 80, 81, 82, 83, 84, 85, 86, 87, 88, 89, 90]⟩] w fun e w' => e = .returned (.int .i64 n) ∧ w = w' := hq ▸ span_is s a _ n w hs ha hn
theorem both_span (s : ByteArray) (q : Int) (a n : Nat) (w : World) (hq : q = a) (hs : s.size ≤ 1000000000) (ha : a ≤ s.size) (hn : Lx.span s.data.toList a Lx.lettersDigits = n) :
    Calls Tryz.prog 128 #[.string s, .int .i64 q, .string ⟨#[95, 97, 98, 99, 100, 101, 102, 103, 104, 105, 106, 107, 108, 109, 110, 111, 112, 113, 114, 115, 116, 117, 118, 119, 120, 121, 122, 65, 66, 67, 68, 69, 70, 71, 72, 73, 74, 75, 76, 77, 78, 79, 80, 81, 82, 83, 84, 85, 86, 87, 88, 89, 90, 48, 49, 50, 51, 52, 53, 54, 55, 56, 57]⟩] w fun e w' => e = .returned (.int .i64 n) ∧ w = w' := hq ▸ span_is s a _ n w hs ha hn
theorem extract_str (s : ByteArray) (a b : Nat) : s.extract a b = ⟨(Lx.sub s.data.toList a b).toArray⟩ := by
  apply ByteArray.ext
  apply Array.ext'
  rw [extract_sub]
set_option maxRecDepth 100000 in
set_option maxHeartbeats 1000000 in
theorem scan_word_sign_none (s : ByteArray) (a : Nat) (k : Int) (w : World) (hs : s.size ≤ 1000000000) (ha : a < s.size) (ha' : (a : Int) < s.size) (hge1 : Lib.indexByte [123, 125, 40, 41, 44, 59, 58, 61, 38, 46, 42] s[a] < 0) (hk : Lx.sign s[a] = some k) (k2 : (k == 2) = false) (k6 : (k == 6) = false) (k7 : (k == 7) = false) (Hn : Hid (Lx.span s.data.toList (a + 1) Lx.letters = 0)) :
    Calls Tryz.prog 87 #[.string s, .int .i64 a] w fun e w' => (∃ t : Tok, e = .returned (.tuple #[t.agg, .int .i64 a, .int .i64 18])) ∧ Below w.heap.size w w' := by
  have hlk := sign_hit w s[a] k hk
  clear hk
  have Hq : Hid ((a : Int) + 1 = ((a + 1 : Nat) : Int)) := (Int.natCast_add a 1).symm
  go_enter Tryz.func87, Tryz.ntmps87
  go_wp2_with (first | (go_at_call 86; refine (indexByte_c _ _ _).mono ?_; rintro e w' ⟨rfl, rfl⟩) | (go_at_call 129; refine (signs_any _).mono ?_; rintro e w' ⟨rfl, rfl⟩) | (go_at_call 128; (with_reducible refine (letters_span s _ (a + 1) 0 _ Hq.out hs (Nat.succ_le_of_lt ha) Hn.out).mono ?_); rintro e w' ⟨rfl, rfl⟩))
  exact bodyPost_ret (v := .tuple #[Tok.agg ⟨k, [], 0, a⟩, .int .i64 a, .int .i64 18]) (by simp [results, Tryz.results87, go_sem, Tok.agg]) rfl ⟨⟨_, rfl⟩, (((Below.refl _ _).alloc (Nat.le_refl _) _).alloc (by simp) _).alloc (by simp; omega) _⟩
set_option maxRecDepth 100000 in
set_option maxHeartbeats 1000000 in
theorem scan_word_sign_long (s : ByteArray) (a : Nat) (n m : Nat) (k : Int) (w : World) (hs : s.size ≤ 1000000000) (ha : a < s.size) (ha' : (a : Int) < s.size) (hge1 : Lib.indexByte [123, 125, 40, 41, 44, 59, 58, 61, 38, 46, 42] s[a] < 0) (hk : Lx.sign s[a] = some k) (k2 : (k == 2) = false) (k6 : (k == 6) = false) (k7 : (k == 7) = false) (hn0 : ¬ n = 0) (Hn : Hid (Lx.span s.data.toList (a + 1) Lx.letters = n)) (Hm : Hid (Lx.span s.data.toList (a + 1) Lx.lettersDigits = m)) (hm : 255 < m) (hle' : ((a + 1) : Int) + m ≤ s.size) :
    Calls Tryz.prog 87 #[.string s, .int .i64 a] w fun e w' => (∃ t : Tok, e = .returned (.tuple #[t.agg, .int .i64 a, .int .i64 20])) ∧ Below w.heap.size w w' := by
  have hlk := sign_hit w s[a] k hk
  clear hk
  have Hq : Hid ((a : Int) + 1 = ((a + 1 : Nat) : Int)) := (Int.natCast_add a 1).symm
  go_enter Tryz.func87, Tryz.ntmps87
  go_wp2_with (first | (go_at_call 86; refine (indexByte_c _ _ _).mono ?_; rintro e w' ⟨rfl, rfl⟩) | (go_at_call 129; refine (signs_any _).mono ?_; rintro e w' ⟨rfl, rfl⟩) | (go_at_call 128; (with_reducible refine (letters_span s _ (a + 1) n _ Hq.out hs (Nat.succ_le_of_lt ha) Hn.out).mono ?_); rintro e w' ⟨rfl, rfl⟩) | (go_at_call 128; (with_reducible refine (both_span s _ (a + 1) m _ Hq.out hs (Nat.succ_le_of_lt ha) Hm.out).mono ?_); rintro e w' ⟨rfl, rfl⟩))
  exact bodyPost_ret (v := .tuple #[Tok.agg ⟨k, [], 0, a⟩, .int .i64 a, .int .i64 20]) (by simp [results, Tryz.results87, go_sem, Tok.agg]) rfl ⟨⟨_, rfl⟩, (((Below.refl _ _).alloc (Nat.le_refl _) _).alloc (by simp) _).alloc (by simp; omega) _⟩
set_option maxRecDepth 100000 in
set_option maxHeartbeats 1000000 in
theorem scan_word_sign_ok (s : ByteArray) (a : Nat) (n m : Nat) (k : Int) (w : World) (hs : s.size ≤ 1000000000) (ha : a < s.size) (ha' : (a : Int) < s.size) (hge1 : Lib.indexByte [123, 125, 40, 41, 44, 59, 58, 61, 38, 46, 42] s[a] < 0) (hk : Lx.sign s[a] = some k) (k2 : (k == 2) = false) (k6 : (k == 6) = false) (k7 : (k == 7) = false) (hn0 : ¬ n = 0) (Hn : Hid (Lx.span s.data.toList (a + 1) Lx.letters = n)) (Hm : Hid (Lx.span s.data.toList (a + 1) Lx.lettersDigits = m)) (hm : m ≤ 255) (hle' : ((a + 1) : Int) + m ≤ s.size) :
    Calls Tryz.prog 87 #[.string s, .int .i64 a] w fun e w' => (e = .returned (.tuple #[Tok.agg ⟨k, Lx.sub s.data.toList (a + 1) ((a + 1) + m), 0, a⟩, .int .i64 (((a + 1) + m : Nat) : Int), .int .i64 0])) ∧ Below w.heap.size w w' := by
  have hlk := sign_hit w s[a] k hk
  clear hk
  have Hq : Hid ((a : Int) + 1 = ((a + 1 : Nat) : Int)) := (Int.natCast_add a 1).symm
  have hex := extract_str s (a + 1) ((a + 1) + m)
  go_enter Tryz.func87, Tryz.ntmps87
  go_wp2_with (first | (go_at_call 86; refine (indexByte_c _ _ _).mono ?_; rintro e w' ⟨rfl, rfl⟩) | (go_at_call 129; refine (signs_any _).mono ?_; rintro e w' ⟨rfl, rfl⟩) | (go_at_call 128; (with_reducible refine (letters_span s _ (a + 1) n _ Hq.out hs (Nat.succ_le_of_lt ha) Hn.out).mono ?_); rintro e w' ⟨rfl, rfl⟩) | (go_at_call 128; (with_reducible refine (both_span s _ (a + 1) m _ Hq.out hs (Nat.succ_le_of_lt ha) Hm.out).mono ?_); rintro e w' ⟨rfl, rfl⟩))
  exact bodyPost_ret (v := .tuple #[Tok.agg ⟨k, Lx.sub s.data.toList (a + 1) ((a + 1) + m), 0, a⟩, .int .i64 (((a + 1) + m : Nat) : Int), .int .i64 0]) (by simp [results, Tryz.results87, go_sem, Tok.agg]) rfl ⟨rfl, (((Below.refl _ _).alloc (Nat.le_refl _) _).alloc (by simp) _).alloc (by simp; omega) _⟩
set_option maxRecDepth 100000 in
set_option maxHeartbeats 1000000 in
theorem scan_word_plain_none (s : ByteArray) (a : Nat) (w : World) (hs : s.size ≤ 1000000000) (ha : a < s.size) (ha' : (a : Int) < s.size) (hge1 : Lib.indexByte [123, 125, 40, 41, 44, 59, 58, 61, 38, 46, 42] s[a] < 0) (hk : Lx.sign s[a] = none) (hge2 : Lib.indexByte [48, 49, 50, 51, 52, 53, 54, 55, 56, 57] s[a] < 0) (Hn : Hid (Lx.span s.data.toList a Lx.letters = 0)) :
    Calls Tryz.prog 87 #[.string s, .int .i64 a] w fun e w' => (∃ t : Tok, e = .returned (.tuple #[t.agg, .int .i64 a, .int .i64 18])) ∧ Below w.heap.size w w' := by
  have hlk := sign_miss w s[a] hk
  clear hk
  go_enter Tryz.func87, Tryz.ntmps87
  go_wp2_with (first | (go_at_call 86; refine (indexByte_c _ _ _).mono ?_; rintro e w' ⟨rfl, rfl⟩) | (go_at_call 129; refine (signs_any _).mono ?_; rintro e w' ⟨rfl, rfl⟩) | (go_at_call 128; (with_reducible refine (letters_span s _ a 0 _ rfl hs (Nat.le_of_lt ha) Hn.out).mono ?_); rintro e w' ⟨rfl, rfl⟩))
  exact bodyPost_ret (v := .tuple #[Tok.agg ⟨1, [], 0, a⟩, .int .i64 a, .int .i64 18]) (by simp [results, Tryz.results87, go_sem, Tok.agg]) rfl ⟨⟨_, rfl⟩, (((Below.refl _ _).alloc (Nat.le_refl _) _).alloc (by simp) _).alloc (by simp; omega) _⟩
set_option maxRecDepth 100000 in
set_option maxHeartbeats 1000000 in
theorem scan_word_plain_long (s : ByteArray) (a : Nat) (n m : Nat) (w : World) (hs : s.size ≤ 1000000000) (ha : a < s.size) (ha' : (a : Int) < s.size) (hge1 : Lib.indexByte [123, 125, 40, 41, 44, 59, 58, 61, 38, 46, 42] s[a] < 0) (hk : Lx.sign s[a] = none) (hge2 : Lib.indexByte [48, 49, 50, 51, 52, 53, 54, 55, 56, 57] s[a] < 0) (hn0 : ¬ n = 0) (Hn : Hid (Lx.span s.data.toList a Lx.letters = n)) (Hm : Hid (Lx.span s.data.toList a Lx.lettersDigits = m)) (hm : 255 < m) (hle' : (a : Int) + m ≤ s.size) :
    Calls Tryz.prog 87 #[.string s, .int .i64 a] w fun e w' => (∃ t : Tok, e = .returned (.tuple #[t.agg, .int .i64 a, .int .i64 20])) ∧ Below w.heap.size w w' := by
  have hlk := sign_miss w s[a] hk
  clear hk
  go_enter Tryz.func87, Tryz.ntmps87
  go_wp2_with (first | (go_at_call 86; refine (indexByte_c _ _ _).mono ?_; rintro e w' ⟨rfl, rfl⟩) | (go_at_call 129; refine (signs_any _).mono ?_; rintro e w' ⟨rfl, rfl⟩) | (go_at_call 128; (with_reducible refine (letters_span s _ a n _ rfl hs (Nat.le_of_lt ha) Hn.out).mono ?_); rintro e w' ⟨rfl, rfl⟩) | (go_at_call 128; (with_reducible refine (both_span s _ a m _ rfl hs (Nat.le_of_lt ha) Hm.out).mono ?_); rintro e w' ⟨rfl, rfl⟩))
  exact bodyPost_ret (v := .tuple #[Tok.agg ⟨1, [], 0, a⟩, .int .i64 a, .int .i64 20]) (by simp [results, Tryz.results87, go_sem, Tok.agg]) rfl ⟨⟨_, rfl⟩, (((Below.refl _ _).alloc (Nat.le_refl _) _).alloc (by simp) _).alloc (by simp; omega) _⟩
set_option maxRecDepth 100000 in
set_option maxHeartbeats 1000000 in
theorem scan_word_plain_ok (s : ByteArray) (a : Nat) (n m : Nat) (w : World) (hs : s.size ≤ 1000000000) (ha : a < s.size) (ha' : (a : Int) < s.size) (hge1 : Lib.indexByte [123, 125, 40, 41, 44, 59, 58, 61, 38, 46, 42] s[a] < 0) (hk : Lx.sign s[a] = none) (hge2 : Lib.indexByte [48, 49, 50, 51, 52, 53, 54, 55, 56, 57] s[a] < 0) (hn0 : ¬ n = 0) (Hn : Hid (Lx.span s.data.toList a Lx.letters = n)) (Hm : Hid (Lx.span s.data.toList a Lx.lettersDigits = m)) (hm : m ≤ 255) (hle' : (a : Int) + m ≤ s.size) :
    Calls Tryz.prog 87 #[.string s, .int .i64 a] w fun e w' => (e = .returned (.tuple #[Tok.agg ⟨1, Lx.sub s.data.toList a (a + m), 0, a⟩, .int .i64 ((a + m : Nat) : Int), .int .i64 0])) ∧ Below w.heap.size w w' := by
  have hlk := sign_miss w s[a] hk
  clear hk
  have hex := extract_str s a (a + m)
  go_enter Tryz.func87, Tryz.ntmps87
  go_wp2_with (first | (go_at_call 86; refine (indexByte_c _ _ _).mono ?_; rintro e w' ⟨rfl, rfl⟩) | (go_at_call 129; refine (signs_any _).mono ?_; rintro e w' ⟨rfl, rfl⟩) | (go_at_call 128; (with_reducible refine (letters_span s _ a n _ rfl hs (Nat.le_of_lt ha) Hn.out).mono ?_); rintro e w' ⟨rfl, rfl⟩) | (go_at_call 128; (with_reducible refine (both_span s _ a m _ rfl hs (Nat.le_of_lt ha) Hm.out).mono ?_); rintro e w' ⟨rfl, rfl⟩))
  exact bodyPost_ret (v := .tuple #[Tok.agg ⟨1, Lx.sub s.data.toList a (a + m), 0, a⟩, .int .i64 ((a + m : Nat) : Int), .int .i64 0]) (by simp [results, Tryz.results87, go_sem, Tok.agg]) rfl ⟨rfl, (((Below.refl _ _).alloc (Nat.le_refl _) _).alloc (by simp) _).alloc (by simp; omega) _⟩

end Go.Proofs.YthpanohdfelkhaaGreatDoor
