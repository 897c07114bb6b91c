/- The plain functions of the lexer: what lexer.Lex computes, over lists of bytes. No program in sight. -/
import Derived.Lib.Bytealg
import Derived.Lib.Strings
import Derived.Lib.ParseIntB
namespace Go.Proofs.YthpanohdfelkhaaGreatDoor
/-- A token of the lexer. -/
structure Tok where
  k : Int
  tx : List UInt8
  n : Int
  pos : Int
  deriving DecidableEq
namespace Lx
def spaces : List UInt8 := [32, 9, 10, 13]
def digits : List UInt8 := [48, 49, 50, 51, 52, 53, 54, 55, 56, 57]
def letters : List UInt8 := [95, 97, 98, 99, 100, 101, 102, 103, 104, 105, 106, 107, 108, 109, 110, 111, 112, 113, 114, 115, 116, 117, 118, 119, 120, 121, 122, 65, 66, 67, 68, 69, 70, 71, 72, 73, 74, 75, 76, 77, 78, 79, 80, 81, 82, 83, 84, 85, 86, 87, 88, 89, 90]
def lettersDigits : List UInt8 := [95, 97, 98, 99, 100, 101, 102, 103, 104, 105, 106, 107, 108, 109, 110, 111, 112, 113, 114, 115, 116, 117, 118, 119, 120, 121, 122, 65, 66, 67, 68, 69, 70, 71, 72, 73, 74, 75, 76, 77, 78, 79, 80, 81, 82, 83, 84, 85, 86, 87, 88, 89, 90, 48, 49, 50, 51, 52, 53, 54, 55, 56, 57]
def puncts : List UInt8 := [123, 125, 40, 41, 44, 59, 58, 61, 38, 46, 42]
def isIn (set : List UInt8) (c : UInt8) : Bool := decide (0 ≤ Lib.indexByte set c)
def spanL (set : List UInt8) : List UInt8 → Nat
  | [] => 0
  | c :: l => if isIn set c then spanL set l + 1 else 0
def span (s : List UInt8) (a : Nat) (set : List UInt8) : Nat := spanL set (s.drop a)
theorem spanL_le (set : List UInt8) : ∀ l, spanL set l ≤ l.length
  | [] => Nat.le_refl _
  | c :: l => by unfold spanL; split <;> simp [spanL_le set l]
theorem span_le (s : List UInt8) (a : Nat) (set : List UInt8) : span s a set ≤ s.length - a := by
  have := spanL_le set (s.drop a); simpa [span] using this
/-- all before the n-th are in the set, and (n is the end or the n-th is not): n is the span -/
theorem spanL_eq (set : List UInt8) : ∀ (l : List UInt8) (n : Nat), n ≤ l.length → (∀ j, j < n → ∀ c, l[j]? = some c → isIn set c = true) → (∀ c, l[n]? = some c → isIn set c = false) → spanL set l = n
  | [], n, h, _, _ => by simp at h; simp [spanL, h]
  | c :: l, 0, _, _, h2 => by
    have := h2 c (by simp)
    simp [spanL, this]
  | c :: l, n + 1, h, h1, h2 => by
    have h0 := h1 0 (by omega) c (by simp)
    have := spanL_eq set l n (by simpa using h) (fun j hj d hd => h1 (j + 1) (by omega) d (by simpa using hd)) (fun d hd => h2 d (by simpa using hd))
    simp [spanL, h0, this]
theorem span_eq (set s : List UInt8) (a n : Nat) (h : a + n ≤ s.length) (h1 : ∀ j, j < n → ∀ c, s[a + j]? = some c → isIn set c = true) (h2 : ∀ c, s[a + n]? = some c → isIn set c = false) : span s a set = n :=
  spanL_eq set _ n (by simp; omega) (fun j hj c hc => h1 j hj c (by simpa using hc)) (fun c hc => h2 c (by simpa using hc))
def skipF (s : List UInt8) : Nat → Nat → Nat
  | 0, a => a
  | f + 1, a =>
    if Lib.hasPrefix (s.drop (a + span s a spaces)) [47, 47] then
      (if Lib.indexByte (s.drop (a + span s a spaces)) 10 < 0 then s.length else skipF s f (a + span s a spaces + (Lib.indexByte (s.drop (a + span s a spaces)) 10).toNat))
    else a + span s a spaces
def skip (s : List UInt8) (a : Nat) : Nat := skipF s (s.length + 1 - a) a
def number (text : List UInt8) (most : Int) : Except Int Int :=
  if Lib.trimPrefix text [45] = [] ∨ ((Lib.trimPrefix text [45]).head? = some 48 ∧ text ≠ [48]) then .error 18
  else match Lib.parseIntB 64 text with
    | .ok v => if most < v then .error 3 else .ok v
    | _ => .error 3
def sign (c : UInt8) : Option Int :=
  if c = 37 then some 3 else if c = 39 then some 4 else if c = 64 then some 5 else if c = 35 then some 6 else if c = 94 then some 7 else if c = 45 then some 2 else none
def sub (s : List UInt8) (a b : Nat) : List UInt8 := (s.drop a).take (b - a)
def kindFrom (c : UInt8) (a : Nat) : Int × Nat :=
  match sign c with
  | some k => (k, a + 1)
  | none => if isIn digits c then (2, a) else (1, a)
def scanNum (s : List UInt8) (a : Nat) (kf : Int × Nat) : Except Int (Tok × Nat) :=
  match (if kf.1 = 2 then number (sub s a (kf.2 + span s kf.2 digits)) 9223372036854775807 else number (sub s kf.2 (kf.2 + span s kf.2 digits)) 65535) with
  | .error e => .error e
  | .ok n => .ok ({ k := kf.1, tx := [], n := n, pos := a }, kf.2 + span s kf.2 digits)
def scanWord (s : List UInt8) (a : Nat) (kf : Int × Nat) : Except Int (Tok × Nat) :=
  if span s kf.2 letters = 0 then .error 18
  else if 255 < span s kf.2 lettersDigits then .error 20
  else .ok ({ k := kf.1, tx := sub s kf.2 (kf.2 + span s kf.2 lettersDigits), n := 0, pos := a }, kf.2 + span s kf.2 lettersDigits)
def isNum (k : Int) : Bool := k == 2 || k == 6 || k == 7
def scan (s : List UInt8) (a : Nat) : Except Int (Tok × Nat) :=
  match s[a]? with
  | none => .error 0
  | some c =>
    if isIn puncts c then .ok ({ k := 8, tx := [c], n := 0, pos := a }, a + 1)
    else if isNum (kindFrom c a).1 then scanNum s a (kindFrom c a) else scanWord s a (kindFrom c a)
def lexF (s : List UInt8) : Nat → Nat → Int → List Tok → Except (Nat × Int) (List Tok)
  | 0, a, _, _ => .error (a, 0)
  | f + 1, a, after, acc =>
    if a = s.length then .ok acc
    else if (decide ((a : Int) = after) && ((s[a]?).any (isIn lettersDigits))) = true then .error (a, 18)
    else match scan s a with
      | .error e => .error (a, e)
      | .ok (t, to) => lexF s f (skip s to) (if isNum t.k then (to : Int) else -1) (acc ++ [t])
def lex (s : List UInt8) : Except (Nat × Int) (List Tok) :=
  match lexF s (s.length + 1) (skip s 0) (-1) [] with
  | .error e => .error e
  | .ok l => .ok (l ++ [{ k := 0, tx := [], n := 0, pos := s.length }])
end Lx
end Go.Proofs.YthpanohdfelkhaaGreatDoor
/- Plain facts about the lexer's functions: they move on, and stay inside the text. No program in sight. -/
namespace Go.Proofs.YthpanohdfelkhaaGreatDoor
namespace Lx
theorem skipF_bounds (s : List UInt8) : ∀ f a, a ≤ s.length → a ≤ skipF s f a ∧ skipF s f a ≤ s.length
  | 0, a, h => ⟨Nat.le_refl _, h⟩
  | f + 1, a, h => by
    have h1 := span_le s a spaces
    unfold skipF
    split
    · split
      · exact ⟨h, Nat.le_refl _⟩
      · rename_i hn
        have hlt : Lib.indexByte (s.drop (a + span s a spaces)) 10 ≤ (s.drop (a + span s a spaces)).length := by
          have : ∀ l : List UInt8, Lib.indexByte l 10 ≤ l.length := by
            intro l
            induction l with
            | nil => simp [Lib.indexByte]
            | cons b l ih => simp only [Lib.indexByte, List.length_cons]; split <;> (try split) <;> omega
          exact this _
        rw [List.length_drop] at hlt
        have := skipF_bounds s f (a + span s a spaces + (Lib.indexByte (s.drop (a + span s a spaces)) 10).toNat) (by omega)
        exact ⟨by omega, this.2⟩
    · omega
theorem skip_bounds (s : List UInt8) (a : Nat) (h : a ≤ s.length) : a ≤ skip s a ∧ skip s a ≤ s.length := skipF_bounds s _ a h
theorem all_bytes {p : UInt8 → Bool} (h : ∀ n : Fin 256, p (UInt8.ofNat n.val) = true) (c : UInt8) : p c = true := by
  have := h ⟨c.toNat, c.toNat_lt⟩
  simpa using this
theorem letters_both (c : UInt8) (h : isIn letters c = true) : isIn lettersDigits c = true := by
  have := all_bytes (p := fun c => !isIn letters c || isIn lettersDigits c) (by decide +kernel) c
  simpa [h] using this
theorem span_pos (set s : List UInt8) (a : Nat) (c : UInt8) (h : s[a]? = some c) (hc : isIn set c = true) : 1 ≤ span s a set := by
  unfold span
  have h1 : a < s.length := (List.getElem?_eq_some_iff.1 h).1
  rw [List.drop_eq_getElem_cons h1]
  have : s[a] = c := (List.getElem?_eq_some_iff.1 h).2
  simp [spanL, this, hc]
theorem span_zero (set s : List UInt8) (a : Nat) (h : span s a set ≠ 0) : ∃ c, s[a]? = some c ∧ isIn set c = true := by
  unfold span at h
  cases hd : s.drop a with
  | nil => rw [hd] at h; simp [spanL] at h
  | cons c l =>
    rw [hd] at h
    have : s[a]? = some c := by
      have h2 := congrArg List.head? hd
      simpa using h2
    refine ⟨c, this, ?_⟩
    cases hc : isIn set c with
    | true => rfl
    | false => simp [spanL, hc] at h
theorem kindFrom_ge (c : UInt8) (a : Nat) : a ≤ (kindFrom c a).2 ∧ (kindFrom c a).2 ≤ a + 1 ∧ ((kindFrom c a).2 = a → (kindFrom c a).1 = 2 → isIn digits c = true) := by
  unfold kindFrom
  cases h : sign c with
  | some k => exact ⟨by simp, by simp, by simp⟩
  | none => cases hd : isIn digits c <;> simp
theorem kindFrom_word (c : UInt8) (a : Nat) : isNum (kindFrom c a).1 = true → (kindFrom c a).2 = a → isIn digits c = true := by
  unfold kindFrom
  cases h : sign c with
  | some k => simp
  | none => cases hd : isIn digits c <;> simp [isNum]
theorem scan_to (s : List UInt8) (a : Nat) (x : Tok × Nat) (h : scan s a = .ok x) : a < x.2 ∧ x.2 ≤ s.length := by
  unfold scan at h
  cases hc : s[a]? with
  | none => rw [hc] at h; cases h
  | some c =>
    rw [hc] at h
    have ha : a < s.length := (List.getElem?_eq_some_iff.1 hc).1
    simp only at h
    split at h
    · injection h with h; subst h; exact ⟨Nat.lt_succ_self a, ha⟩
    · have hk := kindFrom_ge c a
      split at h
      · rename_i hn
        have hw := kindFrom_word c a hn
        unfold scanNum at h
        split at h
        · cases h
        · injection h with h; subst h
          have h1 := span_le s (kindFrom c a).2 digits
          refine ⟨?_, by simp only; omega⟩
          by_cases e : (kindFrom c a).2 = a
          · have := span_pos digits s a c hc (hw e)
            simp only; rw [e]; omega
          · simp only; omega
      · unfold scanWord at h
        split at h
        · cases h
        · rename_i h0
          split at h
          · cases h
          · injection h with h; subst h
            have h1 := span_le s (kindFrom c a).2 lettersDigits
            obtain ⟨d, hd1, hd2⟩ := span_zero letters s _ h0
            have := span_pos lettersDigits s _ d hd1 (letters_both d hd2)
            exact ⟨by simp only; omega, by simp only; omega⟩
theorem number_code (l : List UInt8) (m c : Int) (h : number l m = .error c) : c = 18 ∨ c = 3 := by
  unfold number at h
  split at h
  · injection h with h; omega
  · split at h
    · split at h
      · injection h with h; omega
      · cases h
    · injection h with h; omega
theorem scan_code (s : List UInt8) (a : Nat) (c : Int) (ha : a < s.length) (h : scan s a = .error c) : c = 18 ∨ c = 20 ∨ c = 3 := by
  unfold scan at h
  rw [List.getElem?_eq_getElem ha] at h
  simp only at h
  split at h
  · cases h
  · split at h
    · unfold scanNum at h
      split at h
      · rename_i e he
        injection h with h; subst h
        split at he
        · have := number_code _ _ _ he; omega
        · have := number_code _ _ _ he; omega
      · cases h
    · unfold scanWord at h
      split at h
      · injection h with h; omega
      · split at h
        · injection h with h; omega
        · cases h
end Lx
end Go.Proofs.YthpanohdfelkhaaGreatDoor
