/- lexer.number: it returns Lx.number; nothing that lay in memory is changed. Strings up to 10^9 bytes. -/
import Derived.Test.YthpanohdfelkhaaGreatDoorGlob
namespace Go.Proofs.YthpanohdfelkhaaGreatDoor
open Go.RowKit
def numVal : Except Int Int → Value
  | .ok v => .tuple #[.int .i64 v, .int .i64 0]
  | .error c => .tuple #[.int .i64 0, .int .i64 c]
theorem trimPrefix_is (s p : ByteArray) (d : List UInt8) (w : World) (h : Lib.trimPrefix s.data.toList p.data.toList = d) :
    Calls Tryz.prog 152 #[.string s, .string p] w fun e w' => e = .returned (.string ⟨d.toArray⟩) ∧ w = w' :=
  h ▸ (Tryz.strings_TrimPrefix s p w).mono fun _ _ ⟨h1, h2⟩ => ⟨h1, h2.symm⟩
def ParsePost (r : Lib.NumEnd Int) (w : World) (e : Ending) (w' : World) : Prop :=
  (match r with
    | .ok v => e = .returned (.tuple #[.int .i64 v, .nilIface])
    | _ => ∃ n te pe, e = .returned (.tuple #[.int .i64 n, .iface te pe])) ∧ Below w.heap.size w w'
theorem parseInt_c (s : ByteArray) (w : World) (hG : Glob w) (hs : s.size ≤ 1000000000) :
    Calls Tryz.prog 153 #[.string s, .int .i64 10, .int .i64 64] w (ParsePost (Lib.parseIntB 64 s.data.toList) w) := by
  obtain ⟨te, pe, h1⟩ := hG.es
  obtain ⟨tr, pr, h2⟩ := hG.er
  cases h : Lib.parseIntB 64 s.data.toList
  · rename_i v
    refine (Tryz.strconv_ParseInt_10_at64_ok s (by omega) v h w).mono ?_
    rintro e w' ⟨rfl, h3⟩
    refine ⟨rfl, ?_⟩
    rcases h3 with rfl | ⟨t, rfl⟩
    · exact Below.refl _ _
    · exact below_bytes _ _ _
  · refine (Tryz.strconv_ParseInt_10_at64_syntax s (by omega) h _ w h1 (Or.inr ⟨te, pe, rfl⟩)).mono ?_
    rintro e w' ⟨N, rfl, _, _, hb⟩
    exact ⟨⟨_, _, _, rfl⟩, hb⟩
  · refine (Tryz.strconv_ParseInt_10_at64_range s (by omega) h _ w h2 (Or.inr ⟨tr, pr, rfl⟩)).mono ?_
    rintro e w' ⟨N, rfl, _, _, hb⟩
    exact ⟨⟨_, _, _, rfl⟩, hb⟩
theorem parseInt_ok (s : ByteArray) (v : Int) (w : World) (hG : Glob w) (hs : s.size ≤ 1000000000) (h : Lib.parseIntB 64 s.data.toList = .ok v) :
    Calls Tryz.prog 153 #[.string s, .int .i64 10, .int .i64 64] w fun e w' => e = .returned (.tuple #[.int .i64 v, .nilIface]) ∧ Below w.heap.size w w' := by
  have := parseInt_c s w hG hs; rw [h] at this; exact this
theorem parseInt_bad (s : ByteArray) (w : World) (hG : Glob w) (hs : s.size ≤ 1000000000) (h : ∀ v, Lib.parseIntB 64 s.data.toList ≠ .ok v) :
    Calls Tryz.prog 153 #[.string s, .int .i64 10, .int .i64 64] w fun e w' => (∃ n te pe, e = .returned (.tuple #[.int .i64 n, .iface te pe])) ∧ Below w.heap.size w w' := by
  refine (parseInt_c s w hG hs).mono ?_
  rintro e w' ⟨h1, h2⟩
  cases hp : Lib.parseIntB 64 s.data.toList
  · exact absurd hp (h _)
  · rw [hp] at h1; exact ⟨h1, h2⟩
  · rw [hp] at h1; exact ⟨h1, h2⟩
theorem toList_ne {s : ByteArray} {l : List UInt8} (h : s.data.toList ≠ l) : (!s.toList == l) = true := by
  rw [Lib.toList_data]; simpa using h
theorem toList_is {s : ByteArray} {l : List UInt8} (h : s.data.toList = l) : (!s.toList == l) = false := by
  rw [Lib.toList_data]; simpa using h
set_option maxHeartbeats 400000 in
/-- where the text is a numeral by its form: what ParseInt says -/
theorem number_go (s : ByteArray) (most : Int) (c : UInt8) (l : List UInt8) (w : World) (hG : Glob w) (hs : s.size ≤ 1000000000) (hd : Lib.trimPrefix s.data.toList [45] = c :: l) (hc : c = 48 → s.data.toList = [48]) :
    Calls Tryz.prog 130 #[.string s, .int .i64 most] w fun e w' => e = .returned (numVal (match Lib.parseIntB 64 s.data.toList with | .ok v => if most < v then .error 3 else .ok v | _ => .error 3)) ∧ Below w.heap.size w w' := by
  have Hd := Lib.hid hd; clear hd
  have key : (c.toNat : Int) = 48 → (!s.toList == [48]) = false := fun h => toList_is (hc (by
    have : c.toNat = 48 := by omega
    rw [← UInt8.toNat_inj]; exact this))
  have hix : ((⟨(c :: l).toArray⟩ : ByteArray)[0]'(by show 0 < (c :: l).toArray.size; simp)) = c := rfl
  have Key := Lib.hid key; clear key hc
  cases hp : Lib.parseIntB 64 s.data.toList with
  | ok v =>
    have Hp := Lib.hid hp; clear hp
    by_cases hm : most < v
    all_goals
      by_cases hc : (c.toNat : Int) = 48
      all_goals
        first
          | (have h48 := Key.out hc
             go_enter Tryz.func130, Tryz.ntmps130
             go_wp2_with (first | (go_at_call 152; refine (trimPrefix_is _ _ _ _ Hd.out).mono ?_; rintro e w' ⟨rfl, rfl⟩) | (go_at_call 153; refine (parseInt_ok _ v _ hG hs Hp.out).mono ?_; rintro e w' ⟨rfl, hb⟩)))
          | (have h48 : True := trivial
             go_enter Tryz.func130, Tryz.ntmps130
             go_wp2_with (first | (go_at_call 152; refine (trimPrefix_is _ _ _ _ Hd.out).mono ?_; rintro e w' ⟨rfl, rfl⟩) | (go_at_call 153; refine (parseInt_ok _ v _ hG hs Hp.out).mono ?_; rintro e w' ⟨rfl, hb⟩)))
        go_ret2
        exact ⟨by simp [numVal], hb⟩
  | _ =>
    have Hp : Hid (∀ v, Lib.parseIntB 64 s.data.toList ≠ .ok v) := fun v h => by rw [hp] at h; cases h
    clear hp
    by_cases hc : (c.toNat : Int) = 48
    all_goals
      first
        | (have h48 := Key.out hc
           go_enter Tryz.func130, Tryz.ntmps130
           go_wp2_with (first | (go_at_call 152; refine (trimPrefix_is _ _ _ _ Hd.out).mono ?_; rintro e w' ⟨rfl, rfl⟩) | (go_at_call 153; refine (parseInt_bad _ _ hG hs Hp.out).mono ?_; rintro e w' ⟨⟨n, te, pe, rfl⟩, hb⟩)))
        | (have h48 : True := trivial
           go_enter Tryz.func130, Tryz.ntmps130
           go_wp2_with (first | (go_at_call 152; refine (trimPrefix_is _ _ _ _ Hd.out).mono ?_; rintro e w' ⟨rfl, rfl⟩) | (go_at_call 153; refine (parseInt_bad _ _ hG hs Hp.out).mono ?_; rintro e w' ⟨⟨n, te, pe, rfl⟩, hb⟩)))
      go_ret2
      exact ⟨by simp [numVal], hb⟩
set_option maxHeartbeats 400000 in
theorem number_no (s : ByteArray) (most : Int) (w : World) (hd : Lib.trimPrefix s.data.toList [45] = []) :
    Calls Tryz.prog 130 #[.string s, .int .i64 most] w fun e w' => e = .returned (.tuple #[.int .i64 0, .int .i64 18]) ∧ w = w' := by
  have Hd := Lib.hid hd; clear hd
  go_enter Tryz.func130, Tryz.ntmps130
  go_wp2_with (go_at_call 152; refine (trimPrefix_is _ _ _ _ Hd.out).mono ?_; rintro e w' ⟨rfl, rfl⟩)
  go_ret2
  exact ⟨rfl, rfl⟩
set_option maxHeartbeats 400000 in
theorem number_zero (s : ByteArray) (most : Int) (l : List UInt8) (w : World) (hd : Lib.trimPrefix s.data.toList [45] = 48 :: l) (hs : s.data.toList ≠ [48]) :
    Calls Tryz.prog 130 #[.string s, .int .i64 most] w fun e w' => e = .returned (.tuple #[.int .i64 0, .int .i64 18]) ∧ w = w' := by
  have Hd := Lib.hid hd; clear hd
  have hne := toList_ne hs
  have hix : ((⟨(48 :: l).toArray⟩ : ByteArray)[0]'(by show 0 < (48 :: l).toArray.size; simp)) = 48 := rfl
  go_enter Tryz.func130, Tryz.ntmps130
  go_wp2_with (go_at_call 152; refine (trimPrefix_is _ _ _ _ Hd.out).mono ?_; rintro e w' ⟨rfl, rfl⟩)
  go_ret2
  exact ⟨rfl, rfl⟩
theorem number_any (s : ByteArray) (most : Int) (w : World) (hG : Glob w) (hs : s.size ≤ 1000000000) :
    Calls Tryz.prog 130 #[.string s, .int .i64 most] w fun e w' => e = .returned (numVal (Lx.number s.data.toList most)) ∧ Below w.heap.size w w' := by
  cases hd : Lib.trimPrefix s.data.toList [45] with
  | nil =>
    refine (number_no s most w hd).mono ?_
    rintro e w' ⟨rfl, rfl⟩
    exact ⟨by simp [Lx.number, hd, numVal], Below.refl _ _⟩
  | cons c l =>
    by_cases h : c = 48 ∧ s.data.toList ≠ [48]
    · obtain ⟨rfl, h2⟩ := h
      refine (number_zero s most l w hd h2).mono ?_
      rintro e w' ⟨rfl, rfl⟩
      exact ⟨by simp [Lx.number, hd, numVal, h2], Below.refl _ _⟩
    · refine (number_go s most c l w hG hs hd (fun hc => Classical.byContradiction fun h2 => h ⟨hc, h2⟩)).mono ?_
      rintro e w' ⟨rfl, hb⟩
      refine ⟨?_, hb⟩
      have h3 : ¬ (c :: l = [] ∨ ((c :: l).head? = some 48 ∧ s.data.toList ≠ [48])) := by simpa using h
      unfold Lx.number
      rw [hd, if_neg h3]
      cases Lib.parseIntB 64 s.data.toList <;> rfl
theorem number_is (s : ByteArray) (most : Int) (r : Except Int Int) (w : World) (hG : Glob w) (hs : s.size ≤ 1000000000) (h : Lx.number s.data.toList most = r) :
    Calls Tryz.prog 130 #[.string s, .int .i64 most] w fun e w' => e = .returned (numVal r) ∧ Below w.heap.size w w' := h ▸ number_any s most w hG hs
end Go.Proofs.YthpanohdfelkhaaGreatDoor
