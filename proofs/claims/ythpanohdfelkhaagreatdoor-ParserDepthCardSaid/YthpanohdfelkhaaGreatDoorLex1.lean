/- lexer.span, lexer.skip: what they return is Lx.span, Lx.skip; memory is left as it was. Strings up to 10^9 bytes. -/
import Derived.Test.YthpanohdfelkhaaGreatDoorBase
import Derived.Test.YthpanohdfelkhaaGreatDoorShelf
import Derived.Lib.IndexBytes
import Derived.Test.YthpanohdfelkhaaGreatDoorMapRun
namespace Go.Proofs.YthpanohdfelkhaaGreatDoor
open Go.RowKit
theorem indexByte_c (s : ByteArray) (c : Int) (w : World) :
    Calls Tryz.prog 86 #[.string s, .int .u8 c] w fun e w' => e = .returned (.int .i64 (Lib.indexByte s.data.toList c.toNat.toUInt8)) ∧ w = w' :=
  (Tryz.strings_IndexByte s c w).mono fun _ _ ⟨h1, h2⟩ => ⟨h1, h2.symm⟩
theorem getElem_list (s : ByteArray) (i : Nat) (h : i < s.size) : s.data.toList[i]? = some s[i] := by
  have h' : i < s.data.size := h
  rw [Array.getElem?_toList, Array.getElem?_eq_getElem h']; rfl
theorem toNat_u8 (c : UInt8) : ((c.toNat : Int)).toNat.toUInt8 = c := by simp
theorem size_list (s : ByteArray) : s.data.toList.length = s.size := (Lib.size_eq s).symm
set_option maxHeartbeats 400000 in
theorem span_any (s : ByteArray) (a : Nat) (set : ByteArray) (w : World) (hs : s.size ≤ 1000000000) (ha : a ≤ s.size) :
    Calls Tryz.prog 128 #[.string s, .int .i64 a, .string set] w fun e w' => e = .returned (.int .i64 (Lx.span s.data.toList a set.data.toList)) ∧ w = w' := by
  go_enter Tryz.func128, Tryz.ntmps128
  go_wp2
  go_loop [7] (fun n => ∃ k : Nat, n = .int .i64 k ∧ a + k ≤ s.size ∧ ∀ j, j < k → ∀ c, s.data.toList[a + j]? = some c → Lx.isIn set.data.toList c = true) (fun n => s.size - (intOf n).toNat)
  case atStart => exact ⟨0, rfl, by omega, fun j hj => by omega⟩
  case round =>
    obtain ⟨k, rfl, hk, hall⟩ := hrel
    have H := Lib.hid hall; clear hall
    by_cases hlt : a + k < s.size
    · have hlt' : (a : Int) + k < s.size := by omega
      go_wp2_with (go_at_call 86; refine (indexByte_c _ _ _).mono ?_; rintro e w' ⟨rfl, rfl⟩)
      · have hge : 0 ≤ Lib.indexByte set.data.toList s[a + k] := by assumption
        refine ⟨⟨k + 1, by simp, by omega, ?_⟩, by simp [intOf]; omega⟩
        intro j hj c hc
        by_cases e : j = k
        · subst e
          rw [getElem_list s (a + j) hlt] at hc
          injection hc with hc; subst hc
          simpa [Lx.isIn] using hge
        · exact H.out j (by omega) c hc
      · have hge : Lib.indexByte set.data.toList s[a + k] < 0 := by assumption
        go_ret
        refine ⟨?_, rfl⟩
        rw [Lx.span_eq set.data.toList s.data.toList a k (by rw [size_list]; omega) H.out ?_]
        · rfl
        · intro c hc
          rw [getElem_list s (a + k) hlt] at hc
          injection hc with hc; subst hc
          simpa [Lx.isIn] using hge
    · have hlt' : ¬ (a : Int) + k < s.size := by omega
      go_wp2_with fail
      go_ret
      refine ⟨?_, rfl⟩
      rw [Lx.span_eq set.data.toList s.data.toList a k (by rw [size_list]; omega) H.out ?_]
      · rfl
      · intro c hc
        have : s.data.toList.length ≤ a + k := by rw [size_list]; omega
        rw [List.getElem?_eq_none this] at hc; cases hc
theorem hasPrefix_c (s p : ByteArray) (w : World) :
    Calls Tryz.prog 28 #[.string s, .string p] w fun e w' => e = .returned (.bool (Lib.hasPrefix s.data.toList p.data.toList)) ∧ w = w' :=
  (Tryz.strings_HasPrefix s p w).mono fun _ _ ⟨h1, h2⟩ => ⟨h1, h2.symm⟩
theorem extract_to_end (s : ByteArray) (a : Nat) : (s.extract a s.size).data.toList = s.data.toList.drop a := by
  have h := Lib.extract_data s a s.size
  rw [h, List.take_of_length_le (by rw [List.length_drop, size_list]; omega)]
theorem skip_step (s : List UInt8) (f a : Nat) : Lx.skipF s (f + 1) a = if Lib.hasPrefix (s.drop (a + Lx.span s a Lx.spaces)) [47, 47] then (if Lib.indexByte (s.drop (a + Lx.span s a Lx.spaces)) 10 < 0 then s.length else Lx.skipF s f (a + Lx.span s a Lx.spaces + (Lib.indexByte (s.drop (a + Lx.span s a Lx.spaces)) 10).toNat)) else a + Lx.span s a Lx.spaces := rfl
theorem indexByte_lt (c : UInt8) : ∀ l : List UInt8, Lib.indexByte l c < l.length ∨ l = []
  | [] => .inr rfl
  | b :: l => .inl (by
    have ih := indexByte_lt c l
    have hge := Lib.indexByte_ge l c
    simp only [Lib.indexByte, List.length_cons]
    split
    · omega
    · split
      · omega
      · rcases ih with h | rfl
        · omega
        · simp only [Lib.indexByte] at *; simp at *)
theorem indexByte_cons (b c : UInt8) (l : List UInt8) (h : (b == c) = false) : Lib.indexByte (b :: l) c = if Lib.indexByte l c = -1 then -1 else Lib.indexByte l c + 1 := by
  simp [Lib.indexByte, h]
/-- a list that begins with two slashes has no newline among its first two bytes -/
theorem newline_late (l : List UInt8) (h : Lib.hasPrefix l [47, 47] = true) (hi : 0 ≤ Lib.indexByte l 10) : 2 ≤ Lib.indexByte l 10 ∧ Lib.indexByte l 10 < l.length := by
  match l, h with
  | [], h => simp [Lib.hasPrefix] at h
  | [x], h => simp [Lib.hasPrefix] at h
  | x :: y :: l, h =>
    simp [Lib.hasPrefix] at h
    obtain ⟨rfl, rfl⟩ := h
    have hge := Lib.indexByte_ge l 10
    have e1 : Lib.indexByte (47 :: l) 10 = if Lib.indexByte l 10 = -1 then -1 else Lib.indexByte l 10 + 1 := indexByte_cons 47 10 l (by decide)
    have e2 : Lib.indexByte (47 :: 47 :: l) 10 = if Lib.indexByte (47 :: l) 10 = -1 then -1 else Lib.indexByte (47 :: l) 10 + 1 := indexByte_cons 47 10 _ (by decide)
    rw [e2] at hi ⊢
    rw [e1] at hi ⊢
    have hlt := indexByte_lt 10 l
    by_cases h1 : Lib.indexByte l 10 = -1
    · simp [h1] at hi
    · rw [if_neg h1] at hi ⊢
      rw [if_neg (by omega)] at hi ⊢
      rcases hlt with hlt | rfl
      · simp only [List.length_cons]; omega
      · exact absurd rfl h1
theorem span_is (s : ByteArray) (a : Nat) (set : ByteArray) (n : Nat) (w : World) (hs : s.size ≤ 1000000000) (ha : a ≤ s.size) (hn : Lx.span s.data.toList a set.data.toList = n) :
    Calls Tryz.prog 128 #[.string s, .int .i64 a, .string set] w fun e w' => e = .returned (.int .i64 n) ∧ w = w' := hn ▸ span_any s a set w hs ha
theorem hasPrefix_is (s p : ByteArray) (v : Bool) (w : World) (h : Lib.hasPrefix s.data.toList p.data.toList = v) :
    Calls Tryz.prog 28 #[.string s, .string p] w fun e w' => e = .returned (.bool v) ∧ w = w' := h ▸ hasPrefix_c s p w
theorem indexByte_is (s : ByteArray) (c : Int) (v : Int) (w : World) (h : Lib.indexByte s.data.toList c.toNat.toUInt8 = v) :
    Calls Tryz.prog 86 #[.string s, .int .u8 c] w fun e w' => e = .returned (.int .i64 v) ∧ w = w' := h ▸ indexByte_c s c w
set_option maxHeartbeats 400000 in
theorem skip_any (s : ByteArray) (a : Nat) (w : World) (hs : s.size ≤ 1000000000) (ha : a ≤ s.size) :
    Calls Tryz.prog 85 #[.string s, .int .i64 a] w fun e w' => e = .returned (.int .i64 (Lx.skip s.data.toList a)) ∧ w = w' := by
  go_enter Tryz.func85, Tryz.ntmps85
  go_wp2_with fail
  go_step3
  go_wp2_with fail
  go_step3
  go_wp2_with fail
  go_loop [1, 5, 6] (fun x _ _ => ∃ b f : Nat, x = .int .i64 b ∧ b ≤ s.size ∧ s.size - b < f ∧ Lx.skip s.data.toList a = Lx.skipF s.data.toList f b) (fun x _ _ => s.size - (intOf x).toNat)
  case atStart => exact ⟨a, s.size + 1 - a, rfl, ha, by omega, by unfold Lx.skip; rw [size_list]⟩
  case round =>
    obtain ⟨b, f, rfl, hb, hf, he⟩ := hrel
    obtain ⟨f, rfl⟩ : ∃ g, f = g + 1 := ⟨f - 1, by omega⟩
    rw [skip_step] at he
    have hsp := Lx.span_le s.data.toList b Lx.spaces
    rw [size_list] at hsp
    obtain ⟨n, hn⟩ : ∃ n, Lx.span s.data.toList b Lx.spaces = n := ⟨_, rfl⟩
    rw [hn] at he hsp
    have Hn := Lib.hid hn; clear hn
    have hbn : (b : Int) + n ≤ s.size := by omega
    have hex : (s.extract (b + n) s.size).data.toList = s.data.toList.drop (b + n) := extract_to_end s (b + n)
    obtain ⟨v, hv⟩ : ∃ v, Lib.hasPrefix (s.data.toList.drop (b + n)) [47, 47] = v := ⟨_, rfl⟩
    obtain ⟨k, hk⟩ : ∃ k, Lib.indexByte (s.data.toList.drop (b + n)) 10 = k := ⟨_, rfl⟩
    have hnl := newline_late (s.data.toList.drop (b + n))
    rw [hv, hk] at hnl he
    rw [List.length_drop, size_list] at hnl
    have Hv : Hid (Lib.hasPrefix (s.extract (b + n) s.size).data.toList (⟨#[47, 47]⟩ : ByteArray).data.toList = v) := by rw [hex]; exact hv
    have Hk : Hid (Lib.indexByte (s.extract (b + n) s.size).data.toList (10 : Int).toNat.toUInt8 = k) := by rw [hex]; exact hk
    clear hex hv hk
    have He := Lib.hid he; clear he
    have Hnl := Lib.hid hnl; clear hnl
    cases v with
    | false =>
      go_wp2_with (first | (go_at_call 128; refine (span_is s b _ n _ hs hb Hn.out).mono ?_; rintro e w' ⟨rfl, rfl⟩) | (go_at_call 28; refine (hasPrefix_is _ _ _ _ Hv.out).mono ?_; rintro e w' ⟨rfl, rfl⟩))
      rw [Exit.noGoto_ret]
      go_ret
      exact ⟨by rw [He.out]; simp, rfl⟩
    | true =>
      have hk2 : 0 ≤ k → 2 ≤ k ∧ k < ↑(s.size - (b + n)) := fun h => Hnl.out rfl h
      by_cases hk0 : k < 0
      · go_wp2_with (first | (go_at_call 128; refine (span_is s b _ n _ hs hb Hn.out).mono ?_; rintro e w' ⟨rfl, rfl⟩) | (go_at_call 28; refine (hasPrefix_is _ _ _ _ Hv.out).mono ?_; rintro e w' ⟨rfl, rfl⟩) | (go_at_call 86; refine (indexByte_is _ _ _ _ Hk.out).mono ?_; rintro e w' ⟨rfl, rfl⟩))
        rw [Exit.noGoto_ret]
        go_ret
        exact ⟨by rw [He.out]; simp [hk0], rfl⟩
      · obtain ⟨hk3, hk4⟩ := hk2 (by omega)
        clear hk2
        obtain ⟨m, rfl⟩ : ∃ m : Nat, k = m := ⟨k.toNat, by omega⟩
        have hbm : (b : Int) + n + m < s.size := by omega
        go_wp2_with (first | (go_at_call 128; refine (span_is s b _ n _ hs hb Hn.out).mono ?_; rintro e w' ⟨rfl, rfl⟩) | (go_at_call 28; refine (hasPrefix_is _ _ _ _ Hv.out).mono ?_; rintro e w' ⟨rfl, rfl⟩) | (go_at_call 86; refine (indexByte_is _ _ _ _ Hk.out).mono ?_; rintro e w' ⟨rfl, rfl⟩))
        go_round
        case rel => exact ⟨b + n + m, f, by simp, by omega, by omega, by rw [He.out, if_pos trivial, if_neg (by omega)]; simp⟩
        case measure => simp [intOf]; omega
end Go.Proofs.YthpanohdfelkhaaGreatDoor
/- lexer.signs: the map of signs that it makes; a look-up in it is Lx.sign. No condition. -/
namespace Go.Proofs.YthpanohdfelkhaaGreatDoor
open Go.RowKit
def signEs : Array MapEntry := #[{ key := .int .u8 37, val := .int .i64 3, born := 0 }, { key := .int .u8 39, val := .int .i64 4, born := 1 }, { key := .int .u8 64, val := .int .i64 5, born := 2 }, { key := .int .u8 35, val := .int .i64 6, born := 3 }, { key := .int .u8 94, val := .int .i64 7, born := 4 }, { key := .int .u8 45, val := .int .i64 2, born := 5 }]
theorem signs_any (w : World) :
    Calls Tryz.prog 129 #[] w fun e w' => e = .returned (.map (some w.heap.size)) ∧ w' = w.alloc (.map signEs 6) := by
  have hmm := @run_makeMap Tryz.prog
  have u : ∀ (es : Array MapEntry) (clock : Nat) (k v : Value) (w : World), plainKey (.int .u8) k = true → Instr.findNow (.int .u8) k es.toList 0 = some none → (Instr.mapUpdate 197 (.map (some w.heap.size)) k v).run Tryz.prog (w.alloc (.map es clock)) = .ok () (w.alloc (.map (es.push { key := k, val := v, born := clock }) (clock + 1))) :=
    fun es clock k v w h1 h2 => run_mapUpdate_alloc 197 5 3 (.int .u8) es clock k v w Tryz.underlying197 Tryz.underlying5 h1 h2
  have h1 := u #[] 0 (.int .u8 37) (.int .i64 3) w rfl rfl
  have h2 := u #[{ key := .int .u8 37, val := .int .i64 3, born := 0 }] 1 (.int .u8 39) (.int .i64 4) w rfl rfl
  have h3 := u #[{ key := .int .u8 37, val := .int .i64 3, born := 0 }, { key := .int .u8 39, val := .int .i64 4, born := 1 }] 2 (.int .u8 64) (.int .i64 5) w rfl rfl
  have h4 := u #[{ key := .int .u8 37, val := .int .i64 3, born := 0 }, { key := .int .u8 39, val := .int .i64 4, born := 1 }, { key := .int .u8 64, val := .int .i64 5, born := 2 }] 3 (.int .u8 35) (.int .i64 6) w rfl rfl
  have h5 := u #[{ key := .int .u8 37, val := .int .i64 3, born := 0 }, { key := .int .u8 39, val := .int .i64 4, born := 1 }, { key := .int .u8 64, val := .int .i64 5, born := 2 }, { key := .int .u8 35, val := .int .i64 6, born := 3 }] 4 (.int .u8 94) (.int .i64 7) w rfl rfl
  have h6 := u #[{ key := .int .u8 37, val := .int .i64 3, born := 0 }, { key := .int .u8 39, val := .int .i64 4, born := 1 }, { key := .int .u8 64, val := .int .i64 5, born := 2 }, { key := .int .u8 35, val := .int .i64 6, born := 3 }, { key := .int .u8 94, val := .int .i64 7, born := 4 }] 5 (.int .u8 45) (.int .i64 2) w rfl rfl
  clear u
  simp only [List.push_toArray, List.nil_append, List.cons_append, Nat.zero_add, Nat.reduceAdd] at h1 h2 h3 h4 h5 h6
  go_enter Tryz.func129, Tryz.ntmps129
  go_wp2_with fail
  go_ret
  exact ⟨rfl, rfl⟩
theorem sign_find (c : UInt8) : Instr.findNow (.int .u8) (.int .u8 (c.toNat : Int)) signEs.toList 0 = some (match Lx.sign c with
    | some k => some (if c = 37 then 0 else if c = 39 then 1 else if c = 64 then 2 else if c = 35 then 3 else if c = 94 then 4 else 5, .int .i64 k)
    | none => none) := by
  have e : ∀ n : Nat, n < 256 → (((c.toNat : Int) == (n : Int)) = decide (c = UInt8.ofNat n)) := by
    intro n hn
    by_cases h : c = UInt8.ofNat n
    · subst h; simp [Nat.mod_eq_of_lt hn]
    · have : c.toNat ≠ n := fun h2 => h (by rw [← h2]; simp)
      simp [h]; omega
  have e1 : ((c.toNat : Int) == 37) = decide (c = 37) := e 37 (by omega)
  have e2 : ((c.toNat : Int) == 39) = decide (c = 39) := e 39 (by omega)
  have e3 : ((c.toNat : Int) == 64) = decide (c = 64) := e 64 (by omega)
  have e4 : ((c.toNat : Int) == 35) = decide (c = 35) := e 35 (by omega)
  have e5 : ((c.toNat : Int) == 94) = decide (c = 94) := e 94 (by omega)
  have e6 : ((c.toNat : Int) == 45) = decide (c = 45) := e 45 (by omega)
  clear e
  unfold Lx.sign signEs
  by_cases h1 : c = 37
  · subst h1; rfl
  by_cases h2 : c = 39
  · subst h2; rfl
  by_cases h3 : c = 64
  · subst h3; rfl
  by_cases h4 : c = 35
  · subst h4; rfl
  by_cases h5 : c = 94
  · subst h5; rfl
  by_cases h6 : c = 45
  · subst h6; rfl
  simp [Instr.findNow, Instr.sameNow, e1, e2, e3, e4, e5, e6, h1, h2, h3, h4, h5, h6]
end Go.Proofs.YthpanohdfelkhaaGreatDoor
