/- lexer.scan: it returns Lx.scan; nothing that lay in memory is changed. Strings up to 10^9 bytes. -/
import Derived.Test.YthpanohdfelkhaaGreatDoorLex5
namespace Go.Proofs.YthpanohdfelkhaaGreatDoor
open Go.RowKit
theorem sign_kinds (c : UInt8) (k : Int) (h : Lx.sign c = some k) : k = 2 ∨ k = 3 ∨ k = 4 ∨ k = 5 ∨ k = 6 ∨ k = 7 := by
  unfold Lx.sign at h
  repeat (split at h; · injection h with h; omega)
  cases h
theorem isIn_false {set : List UInt8} {c : UInt8} (h : Lx.isIn set c = false) : Lib.indexByte set c < 0 := Int.not_le.1 (of_decide_eq_false h)
theorem isIn_true {set : List UInt8} {c : UInt8} (h : Lx.isIn set c = true) : 0 ≤ Lib.indexByte set c := of_decide_eq_true h
theorem span_in (s : ByteArray) (fr : Nat) (set : List UInt8) (h : fr ≤ s.size) : (fr : Int) + (Lx.span s.data.toList fr set : Nat) ≤ s.size := by
  have := Lx.span_le s.data.toList fr set; rw [size_list] at this; omega
theorem extract_small (s : ByteArray) (hs : s.size ≤ 1000000000) (i j : Nat) : (s.extract i j).size ≤ 1000000000 := by rw [ByteArray.size_extract]; omega
theorem scan_num_sign2 (s : ByteArray) (a : Nat) (w : World) (hG3 : ∀ o1 o2 o3, Glob (((w.alloc o1).alloc o2).alloc o3)) (hs : s.size ≤ 1000000000) (ha : a < s.size) (ha' : (a : Int) < s.size) (hp : Lx.isIn Lx.puncts s[a] = false) (hk : Lx.sign s[a] = some 2) :
    Calls Tryz.prog 87 #[.string s, .int .i64 a] w fun e w' => ScanPost (Lx.scanNum s.data.toList a (2, (a + 1))) e ∧ Below w.heap.size w w' := by
  have hle : ((a : Int) + 1) + (Lx.span s.data.toList (a + 1) Lx.digits : Nat) ≤ s.size := by have := span_in s (a + 1) Lx.digits ha; omega
  have e : Lx.scanNum s.data.toList a (2, (a + 1)) = match Lx.number (Lx.sub s.data.toList a ((a + 1) + Lx.span s.data.toList (a + 1) Lx.digits)) 9223372036854775807 with
    | .error e => .error e
    | .ok n => .ok ({ k := 2, tx := [], n := n, pos := a }, (a + 1) + Lx.span s.data.toList (a + 1) Lx.digits) := rfl
  rw [e]
  cases hr : Lx.number (Lx.sub s.data.toList a ((a + 1) + Lx.span s.data.toList (a + 1) Lx.digits)) 9223372036854775807 with
  | ok m =>
    rw [← extract_sub] at hr
    refine (scan_num_sign2_ok s a _ m w hG3 hs ha ha' (isIn_false hp) hk hle (Lib.hid rfl) (extract_small s hs _ _) (Lib.hid hr)).mono ?_
    rintro e w' ⟨rfl, hb⟩
    exact ⟨rfl, hb⟩
  | error c =>
    rw [← extract_sub] at hr
    refine (scan_num_sign2_err s a _ c w hG3 hs ha ha' (isIn_false hp) hk hle (Lib.hid rfl) (extract_small s hs _ _) (Lib.hid hr)).mono ?_
    rintro e w' ⟨rfl, hb⟩
    exact ⟨⟨_, _, rfl⟩, hb⟩
theorem scan_num_sign6 (s : ByteArray) (a : Nat) (w : World) (hG3 : ∀ o1 o2 o3, Glob (((w.alloc o1).alloc o2).alloc o3)) (hs : s.size ≤ 1000000000) (ha : a < s.size) (ha' : (a : Int) < s.size) (hp : Lx.isIn Lx.puncts s[a] = false) (hk : Lx.sign s[a] = some 6) :
    Calls Tryz.prog 87 #[.string s, .int .i64 a] w fun e w' => ScanPost (Lx.scanNum s.data.toList a (6, (a + 1))) e ∧ Below w.heap.size w w' := by
  have hle : ((a : Int) + 1) + (Lx.span s.data.toList (a + 1) Lx.digits : Nat) ≤ s.size := by have := span_in s (a + 1) Lx.digits ha; omega
  have e : Lx.scanNum s.data.toList a (6, (a + 1)) = match Lx.number (Lx.sub s.data.toList (a + 1) ((a + 1) + Lx.span s.data.toList (a + 1) Lx.digits)) 65535 with
    | .error e => .error e
    | .ok n => .ok ({ k := 6, tx := [], n := n, pos := a }, (a + 1) + Lx.span s.data.toList (a + 1) Lx.digits) := rfl
  rw [e]
  cases hr : Lx.number (Lx.sub s.data.toList (a + 1) ((a + 1) + Lx.span s.data.toList (a + 1) Lx.digits)) 65535 with
  | ok m =>
    rw [← extract_sub] at hr
    refine (scan_num_sign6_ok s a _ m w hG3 hs ha ha' (isIn_false hp) hk hle (Lib.hid rfl) (extract_small s hs _ _) (Lib.hid hr)).mono ?_
    rintro e w' ⟨rfl, hb⟩
    exact ⟨rfl, hb⟩
  | error c =>
    rw [← extract_sub] at hr
    refine (scan_num_sign6_err s a _ c w hG3 hs ha ha' (isIn_false hp) hk hle (Lib.hid rfl) (extract_small s hs _ _) (Lib.hid hr)).mono ?_
    rintro e w' ⟨rfl, hb⟩
    exact ⟨⟨_, _, rfl⟩, hb⟩
theorem scan_num_sign7 (s : ByteArray) (a : Nat) (w : World) (hG3 : ∀ o1 o2 o3, Glob (((w.alloc o1).alloc o2).alloc o3)) (hs : s.size ≤ 1000000000) (ha : a < s.size) (ha' : (a : Int) < s.size) (hp : Lx.isIn Lx.puncts s[a] = false) (hk : Lx.sign s[a] = some 7) :
    Calls Tryz.prog 87 #[.string s, .int .i64 a] w fun e w' => ScanPost (Lx.scanNum s.data.toList a (7, (a + 1))) e ∧ Below w.heap.size w w' := by
  have hle : ((a : Int) + 1) + (Lx.span s.data.toList (a + 1) Lx.digits : Nat) ≤ s.size := by have := span_in s (a + 1) Lx.digits ha; omega
  have e : Lx.scanNum s.data.toList a (7, (a + 1)) = match Lx.number (Lx.sub s.data.toList (a + 1) ((a + 1) + Lx.span s.data.toList (a + 1) Lx.digits)) 65535 with
    | .error e => .error e
    | .ok n => .ok ({ k := 7, tx := [], n := n, pos := a }, (a + 1) + Lx.span s.data.toList (a + 1) Lx.digits) := rfl
  rw [e]
  cases hr : Lx.number (Lx.sub s.data.toList (a + 1) ((a + 1) + Lx.span s.data.toList (a + 1) Lx.digits)) 65535 with
  | ok m =>
    rw [← extract_sub] at hr
    refine (scan_num_sign7_ok s a _ m w hG3 hs ha ha' (isIn_false hp) hk hle (Lib.hid rfl) (extract_small s hs _ _) (Lib.hid hr)).mono ?_
    rintro e w' ⟨rfl, hb⟩
    exact ⟨rfl, hb⟩
  | error c =>
    rw [← extract_sub] at hr
    refine (scan_num_sign7_err s a _ c w hG3 hs ha ha' (isIn_false hp) hk hle (Lib.hid rfl) (extract_small s hs _ _) (Lib.hid hr)).mono ?_
    rintro e w' ⟨rfl, hb⟩
    exact ⟨⟨_, _, rfl⟩, hb⟩
theorem scan_num_digit2 (s : ByteArray) (a : Nat) (w : World) (hG3 : ∀ o1 o2 o3, Glob (((w.alloc o1).alloc o2).alloc o3)) (hs : s.size ≤ 1000000000) (ha : a < s.size) (ha' : (a : Int) < s.size) (hp : Lx.isIn Lx.puncts s[a] = false) (hk : Lx.sign s[a] = none) (hd : Lx.isIn Lx.digits s[a] = true) :
    Calls Tryz.prog 87 #[.string s, .int .i64 a] w fun e w' => ScanPost (Lx.scanNum s.data.toList a (2, a)) e ∧ Below w.heap.size w w' := by
  have hle := (span_in s a Lx.digits (Nat.le_of_lt ha)) 
  have e : Lx.scanNum s.data.toList a (2, a) = match Lx.number (Lx.sub s.data.toList a (a + Lx.span s.data.toList a Lx.digits)) 9223372036854775807 with
    | .error e => .error e
    | .ok n => .ok ({ k := 2, tx := [], n := n, pos := a }, a + Lx.span s.data.toList a Lx.digits) := rfl
  rw [e]
  cases hr : Lx.number (Lx.sub s.data.toList a (a + Lx.span s.data.toList a Lx.digits)) 9223372036854775807 with
  | ok m =>
    rw [← extract_sub] at hr
    refine (scan_num_digit2_ok s a _ m w hG3 hs ha ha' (isIn_false hp) hk (isIn_true hd) hle (Lib.hid rfl) (extract_small s hs _ _) (Lib.hid hr)).mono ?_
    rintro e w' ⟨rfl, hb⟩
    exact ⟨rfl, hb⟩
  | error c =>
    rw [← extract_sub] at hr
    refine (scan_num_digit2_err s a _ c w hG3 hs ha ha' (isIn_false hp) hk (isIn_true hd) hle (Lib.hid rfl) (extract_small s hs _ _) (Lib.hid hr)).mono ?_
    rintro e w' ⟨rfl, hb⟩
    exact ⟨⟨_, _, rfl⟩, hb⟩
theorem scan_word_sign (s : ByteArray) (a : Nat) (k : Int) (w : World) (hs : s.size ≤ 1000000000) (ha : a < s.size) (ha' : (a : Int) < s.size) (hp : Lx.isIn Lx.puncts s[a] = false) (hk : Lx.sign s[a] = some k) (k2 : (k == 2) = false) (k6 : (k == 6) = false) (k7 : (k == 7) = false) :
    Calls Tryz.prog 87 #[.string s, .int .i64 a] w fun e w' => ScanPost (Lx.scanWord s.data.toList a (k, (a + 1))) e ∧ Below w.heap.size w w' := by
  have hle : ((a : Int) + 1) + (Lx.span s.data.toList (a + 1) Lx.lettersDigits : Nat) ≤ s.size := by have := span_in s (a + 1) Lx.lettersDigits ha; omega
  have e : Lx.scanWord s.data.toList a (k, (a + 1)) = if Lx.span s.data.toList (a + 1) Lx.letters = 0 then .error 18 else if 255 < Lx.span s.data.toList (a + 1) Lx.lettersDigits then .error 20 else .ok ({ k := k, tx := Lx.sub s.data.toList (a + 1) ((a + 1) + Lx.span s.data.toList (a + 1) Lx.lettersDigits), n := 0, pos := a }, (a + 1) + Lx.span s.data.toList (a + 1) Lx.lettersDigits) := rfl
  rw [e]
  by_cases h0 : Lx.span s.data.toList (a + 1) Lx.letters = 0
  · rw [if_pos h0]
    refine (scan_word_sign_none s a k w hs ha ha' (isIn_false hp) hk k2 k6 k7 (Lib.hid h0)).mono ?_
    rintro e w' ⟨⟨t, rfl⟩, hb⟩
    exact ⟨⟨_, _, rfl⟩, hb⟩
  · rw [if_neg h0]
    by_cases hl : 255 < Lx.span s.data.toList (a + 1) Lx.lettersDigits
    · rw [if_pos hl]
      refine (scan_word_sign_long s a _ _ k w hs ha ha' (isIn_false hp) hk k2 k6 k7 h0 (Lib.hid rfl) (Lib.hid rfl) hl hle).mono ?_
      rintro e w' ⟨⟨t, rfl⟩, hb⟩
      exact ⟨⟨_, _, rfl⟩, hb⟩
    · rw [if_neg hl]
      refine (scan_word_sign_ok s a _ _ k w hs ha ha' (isIn_false hp) hk k2 k6 k7 h0 (Lib.hid rfl) (Lib.hid rfl) (Nat.not_lt.1 hl) hle).mono ?_
      rintro e w' ⟨rfl, hb⟩
      exact ⟨rfl, hb⟩
theorem scan_word_plain (s : ByteArray) (a : Nat) (w : World) (hs : s.size ≤ 1000000000) (ha : a < s.size) (ha' : (a : Int) < s.size) (hp : Lx.isIn Lx.puncts s[a] = false) (hk : Lx.sign s[a] = none) (hd : Lx.isIn Lx.digits s[a] = false) :
    Calls Tryz.prog 87 #[.string s, .int .i64 a] w fun e w' => ScanPost (Lx.scanWord s.data.toList a (1, a)) e ∧ Below w.heap.size w w' := by
  have hle := span_in s a Lx.lettersDigits (Nat.le_of_lt ha)
  have e : Lx.scanWord s.data.toList a (1, a) = if Lx.span s.data.toList a Lx.letters = 0 then .error 18 else if 255 < Lx.span s.data.toList a Lx.lettersDigits then .error 20 else .ok ({ k := 1, tx := Lx.sub s.data.toList a (a + Lx.span s.data.toList a Lx.lettersDigits), n := 0, pos := a }, a + Lx.span s.data.toList a Lx.lettersDigits) := rfl
  rw [e]
  by_cases h0 : Lx.span s.data.toList a Lx.letters = 0
  · rw [if_pos h0]
    refine (scan_word_plain_none s a w hs ha ha' (isIn_false hp) hk (isIn_false hd) (Lib.hid h0)).mono ?_
    rintro e w' ⟨⟨t, rfl⟩, hb⟩
    exact ⟨⟨_, _, rfl⟩, hb⟩
  · rw [if_neg h0]
    by_cases hl : 255 < Lx.span s.data.toList a Lx.lettersDigits
    · rw [if_pos hl]
      refine (scan_word_plain_long s a _ _ w hs ha ha' (isIn_false hp) hk (isIn_false hd) h0 (Lib.hid rfl) (Lib.hid rfl) hl hle).mono ?_
      rintro e w' ⟨⟨t, rfl⟩, hb⟩
      exact ⟨⟨_, _, rfl⟩, hb⟩
    · rw [if_neg hl]
      refine (scan_word_plain_ok s a _ _ w hs ha ha' (isIn_false hp) hk (isIn_false hd) h0 (Lib.hid rfl) (Lib.hid rfl) (Nat.not_lt.1 hl) hle).mono ?_
      rintro e w' ⟨rfl, hb⟩
      exact ⟨rfl, hb⟩
theorem scan_any (s : ByteArray) (a : Nat) (w : World) (hG : Glob w) (hs : s.size ≤ 1000000000) (ha : a < s.size) :
    Calls Tryz.prog 87 #[.string s, .int .i64 a] w fun e w' => ScanPost (Lx.scan s.data.toList a) e ∧ Below w.heap.size w w' := by
  have ha' : (a : Int) < s.size := by omega
  have hG3 : ∀ o1 o2 o3, Glob (((w.alloc o1).alloc o2).alloc o3) := fun _ _ _ => ((hG.alloc _).alloc _).alloc _
  have hsc : Lx.scan s.data.toList a = if Lx.isIn Lx.puncts s[a] then .ok ({ k := 8, tx := [s[a]], n := 0, pos := a }, a + 1) else if Lx.isNum (Lx.kindFrom s[a] a).1 then Lx.scanNum s.data.toList a (Lx.kindFrom s[a] a) else Lx.scanWord s.data.toList a (Lx.kindFrom s[a] a) := by
    unfold Lx.scan; rw [getElem_list s a ha]
  rw [hsc]
  cases hp : Lx.isIn Lx.puncts s[a] with
  | true =>
    refine (scan_punct s a w hs ha hp).mono ?_
    rintro e w' ⟨rfl, hb⟩
    exact ⟨rfl, hb⟩
  | false =>
    rw [if_neg (by simp)]
    cases hk : Lx.sign s[a] with
    | some k =>
      have hkf : Lx.kindFrom s[a] a = (k, a + 1) := by unfold Lx.kindFrom; rw [hk]
      rw [hkf]
      rcases sign_kinds _ _ hk with rfl | rfl | rfl | rfl | rfl | rfl
      · exact scan_num_sign2 s a w hG3 hs ha ha' hp hk
      · exact scan_word_sign s a 3 w hs ha ha' hp hk rfl rfl rfl
      · exact scan_word_sign s a 4 w hs ha ha' hp hk rfl rfl rfl
      · exact scan_word_sign s a 5 w hs ha ha' hp hk rfl rfl rfl
      · exact scan_num_sign6 s a w hG3 hs ha ha' hp hk
      · exact scan_num_sign7 s a w hG3 hs ha ha' hp hk
    | none =>
      cases hd : Lx.isIn Lx.digits s[a] with
      | true =>
        have hkf : Lx.kindFrom s[a] a = (2, a) := by unfold Lx.kindFrom; rw [hk]; simp [hd]
        rw [hkf]
        exact scan_num_digit2 s a w hG3 hs ha ha' hp hk hd
      | false =>
        have hkf : Lx.kindFrom s[a] a = (1, a) := by unfold Lx.kindFrom; rw [hk]; simp [hd]
        rw [hkf]
        exact scan_word_plain s a w hs ha ha' hp hk hd
end Go.Proofs.YthpanohdfelkhaaGreatDoor
