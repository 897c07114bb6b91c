/- The tokens of the chapter's example texts and of ParserDepth's texts: by the kernel. -/
import Derived.Test.YthpanohdfelkhaaGreatDoorPar15
import Derived.Test.YthpanohdfelkhaaGreatDoorFac1
import Derived.Test.YthpanohdfelkhaaGreatDoorFac5
namespace Go.Proofs.YthpanohdfelkhaaGreatDoor
open Go.RowKit
def text0 : List UInt8 := [98, 111, 100, 121, 32, 64, 102, 32, 123, 32, 94, 48, 58, 32, 123, 32, 114, 101, 116, 117, 114, 110, 59, 32, 125, 32, 125]
def text1 : List UInt8 := [98, 111, 100, 121, 32, 64, 102, 32, 123, 32, 94, 49, 58, 32, 123, 32, 114, 101, 116, 117, 114, 110, 59, 32, 125, 32, 125]
def text2 : List UInt8 := [98, 111, 100, 121, 32, 64, 102, 32, 123, 32, 94, 48, 58, 32, 123, 32, 100, 101, 97, 100, 32, 37, 120, 59, 32, 114, 101, 116, 117, 114, 110, 59, 32, 125, 32, 125]
def textF : List UInt8 := [102, 97, 99, 116, 115, 32, 64, 102, 32, 123, 32, 125]
def headS : List UInt8 := [98, 111, 100, 121, 32, 64, 102, 32, 123, 32, 116, 121, 112, 101, 32, 35, 48, 32, 61, 32, 105, 110, 116, 59, 32, 108, 101, 116, 32, 37, 120, 58, 32, 35, 48, 59, 32, 94, 48, 58, 32, 123, 32, 37, 120, 32, 61, 32, 99, 111, 112, 121, 32, 37, 120]
def tailS : List UInt8 := [59, 32, 114, 101, 116, 117, 114, 110, 59, 32, 125, 32, 125]
def textS (k : Nat) : List UInt8 := headS ++ (List.replicate k [46, 42]).flatten ++ tailS
def okIs (r : Except (Nat × Int) (List Tok)) (l : List Tok) : Bool := match r with | .ok l' => decide (l' = l) | .error _ => false
theorem okIs_of {r : Except (Nat × Int) (List Tok)} {l : List Tok} (h : okIs r l = true) : r = .ok l := by
  cases r with
  | ok l' => exact congrArg _ (of_decide_eq_true h)
  | error e => cases h
theorem lex0 : Lx.lex text0 = .ok toks0 := okIs_of (by decide +kernel)
theorem lex1 : Lx.lex text1 = .ok toks1 := okIs_of (by decide +kernel)
theorem lex2 : Lx.lex text2 = .ok toks2 := okIs_of (by decide +kernel)
theorem lexF : Lx.lex textF = .ok toksF := okIs_of (by decide +kernel)
theorem lexS_all : ∀ k : Fin 40, okIs (Lx.lex (textS k.val)) (toksS k.val) = true := by decide +kernel
theorem lexS (k : Nat) (h : k < 40) : Lx.lex (textS k) = .ok (toksS k) := okIs_of (lexS_all ⟨k, h⟩)
end Go.Proofs.YthpanohdfelkhaaGreatDoor
/- The law's alive: the examples of chapter 21 hold. -/
namespace Go.Proofs.YthpanohdfelkhaaGreatDoor
open Go.RowKit
/-- a callee has run on w, then a box has been laid, then another callee has run -/
theorem box_then {base : Nat} {w w1 w2 : World} {o : Obj} (h : Below base w w1) (hb : base ≤ w1.heap.size) (h2 : Below (w1.alloc o).heap.size (w1.alloc o) w2) : Below base w w2 ∧ w2.heap[w1.heap.size]? = some o ∧ w1.heap.size < w2.heap.size :=
  ⟨(h.alloc hb o).trans (h2.mono (by simp only [World.size_alloc]; omega)), (h2.block _ (by simp only [World.size_alloc]; omega)).trans (heap_new w1 o), by have := h2.size; simp only [World.size_alloc] at this; omega⟩
set_option maxRecDepth 100000 in
set_option maxHeartbeats 1000000 in
theorem alive_c (w : World) (hG : Glob w) : Calls Tryz.prog 7 #[] w fun e w' => e = .returned (.bool true) ∧ Below w.heap.size w w' := by
  have HG := Lib.hid hG; clear hG
  go_enter Tryz.func7, Tryz.ntmps7
  go_wp2_with fail
  refine (parse_T0 ⟨text0.toArray⟩ _ HG.out (by decide) lex0).mono ?_
  rintro e w1 ⟨g, c, rfl, hb1, hC⟩
  have hs1 := hb1.size
  have G1 := fun o => Lib.hid ((HG.out.below hb1).alloc o)
  have HC := fun o => Lib.hid (hC.below ((Below.refl _ w1).alloc (Nat.le_refl _) o))
  have B1 := Lib.hid hb1
  have e1 : (⟨text0.toArray⟩ : ByteArray).size = 27 := rfl
  rw [e1]
  clear hb1 hC
  go_wp2_with fail
  refine (parse_bad ⟨text1.toArray⟩ toks1 10 18 _ (G1 _).out (by decide) lex1 (by decide) (by decide) (fun W p tb hG' hP hp => all_1 p tb W hG' hP hp)).mono ?_
  rintro e w2 ⟨rfl, hb2⟩
  obtain ⟨hB2, m2, hl2⟩ := box_then B1.out hs1 hb2
  have hs2 := hB2.size
  have G2 := fun o => Lib.hid ((HG.out.below hB2).alloc o)
  have C2 := Lib.hid ((HC _).out.below hb2)
  have B2 := Lib.hid hB2
  clear hb2 hB2 G1 HC B1 hs1
  go_wp2_with fail
  refine (parse_bad ⟨text2.toArray⟩ toks2 21 20 _ (G2 _).out (by decide) lex2 (by decide) (by decide) (fun W p tb hG' hP hp => all_2 p tb W hG' hP hp)).mono ?_
  rintro e w3 ⟨rfl, hb3⟩
  obtain ⟨hB3, _, hl3⟩ := box_then B2.out hs2 hb3
  have m3 := (hb3.block w1.heap.size (by simp only [World.size_alloc]; omega)).trans (older m2)
  have hl13 := lt_of_blk m3
  have hs3 := hB3.size
  have G3 := fun o => Lib.hid ((HG.out.below hB3).alloc o)
  have C3 := fun o => Lib.hid ((C2.out.below ((Below.refl _ w2).alloc (Nat.le_refl _) _)).below (hb3.trans ((Below.refl _ w3).alloc hb3.size o)))
  have B3 := Lib.hid hB3
  obtain ⟨x0, x1, x2, x3, x4, x5, x6⟩ := box7 m3
  clear hb3 hB3 G2 C2 B2 hs2 hl2
  go_wp2_with fail
  refine (parseFacts_c ⟨textF.toArray⟩ g c _ (G3 _).out (by decide) lexF (C3 _).out).mono ?_
  rintro e w4 ⟨rfl, hb4⟩
  have e4 : (⟨textF.toArray⟩ : ByteArray).size = 12 := rfl
  rw [e4]
  obtain ⟨hB4, _, hl4⟩ := box_then B3.out hs3 hb4
  have m4 := (hb4.block w1.heap.size (by simp only [World.size_alloc]; omega)).trans (older m3)
  have hl14 := lt_of_blk m4
  have B4 := Lib.hid hB4
  obtain ⟨y0, y1, y2, y3, y4, y5, y6⟩ := box7 m4
  clear hb4 hB4 G3 C3 B3 hs3 hl3
  go_wp2_with fail
  go_ret
  exact ⟨rfl, B4.out.alloc B4.out.size _⟩
end Go.Proofs.YthpanohdfelkhaaGreatDoor
/- The law ParserDepth: true for every input. -/
namespace Go.Proofs.YthpanohdfelkhaaGreatDoor
open Go.RowKit
theorem cat_bytes (a b c : List UInt8) : ((⟨a.toArray⟩ : ByteArray) ++ ⟨b.toArray⟩ ++ ⟨c.toArray⟩).data.toList = a ++ b ++ c := by simp
theorem size_S (r : List UInt8) : ((⟨headS.toArray⟩ : ByteArray) ++ ⟨r.toArray⟩ ++ ⟨tailS.toArray⟩).size = 55 + r.length + 13 := by
  have h : ∀ a : ByteArray, a.size = a.data.toList.length := fun a => by simp
  rw [h, cat_bytes, List.length_append, List.length_append]; rfl
theorem repeat_rep (l : List UInt8) : ∀ k, Lib.repeatL l k = (List.replicate k l).flatten
  | 0 => rfl
  | k + 1 => by rw [Lib.repeatL, repeat_rep l k, List.replicate_succ, List.flatten_cons]
theorem lex_of (k : Nat) (hk : k < 40) (r : List UInt8) (hr : Lib.repeatL [46, 42] k = r) : Lx.lex ((⟨headS.toArray⟩ : ByteArray) ++ ⟨r.toArray⟩ ++ ⟨tailS.toArray⟩).data.toList = .ok (toksS k) := by
  rw [cat_bytes, ← hr, repeat_rep]; exact lexS k hk
set_option maxRecDepth 100000 in
set_option maxHeartbeats 1000000 in
theorem depth_c (n : Int) (h0 : 0 ≤ n) (h1 : n ≤ 255) (w : World) (hG : Glob w) : Calls Tryz.prog 4 #[.int .u8 n] w fun e w' => e = .returned (.bool true) ∧ Below w.heap.size w w' := by
  have HG := Lib.hid hG; clear hG
  go_enter Tryz.func4, Tryz.ntmps4
  go_wp2_with fail
  generalize hm : n % 40 = m
  obtain ⟨k, rfl⟩ := Int.eq_ofNat_of_zero_le (a := m) (by omega)
  have hk40 : k < 40 := by omega
  clear hm
  refine (Tryz.strings_Repeat ⟨#[46, 42]⟩ k _ (by omega) (by show 2 * k ≤ _; omega)).mono ?_
  rintro e w1 ⟨rfl, hb1⟩
  have hrl : (Lib.repeatL [46, 42] k).length ≤ 80 := by rw [Lib.repeatL_length]; simp; omega
  obtain ⟨r, Hr⟩ : ∃ r, Hid (Lib.repeatL [46, 42] k = r) := ⟨_, Lib.hid rfl⟩
  rw [Hr.out] at hrl
  rw [show Lib.repeatL (⟨#[46, 42]⟩ : ByteArray).data.toList k = r from Hr.out]
  go_wp2_with fail
  rcases Nat.eq_zero_or_pos k with rfl | hk1
  · have G1 := HG.out.below hb1
    refine (parse_S0 _ _ G1 (by rw [size_S]; omega) (lex_of 0 (by decide) r Hr.out)).mono ?_
    rintro e w2 ⟨ta, tc, la, lc, ba, bc, rfl, hb2⟩
    rw [size_S]
    have hB2 := hb1.trans (hb2.mono hb1.size)
    have G2 := fun o => Lib.hid ((HG.out.below hB2).alloc o)
    have B2 := Lib.hid hB2
    clear hb1 hb2 hB2 G1
    go_wp2_with fail
    refine (alive_c _ (G2 _).out).mono ?_
    rintro e w3 ⟨rfl, hb3⟩
    obtain ⟨hB3, _, _⟩ := box_then B2.out B2.out.size hb3
    have B3 := Lib.hid hB3
    clear hb3 hB3
    go_wp2_with fail
    go_ret
    exact ⟨rfl, B3.out⟩
  · by_cases hk32 : k ≤ 32
    · have G1 := HG.out.below hb1
      have hk' : (k : Int) ≠ 0 := by omega
      have hkb : ((k : Int) == 0) = false := beq_eq_false_iff_ne.2 hk'
      have hk3 : (k : Int) ≤ 32 := by omega
      refine (parse_Sk k _ _ hk1 hk32 G1 (by rw [size_S]; omega) (lex_of k hk40 r Hr.out)).mono ?_
      rintro e w2 ⟨rfl, hb2⟩
      rw [size_S]
      have hB2 := hb1.trans (hb2.mono hb1.size)
      have G2 := fun o => Lib.hid ((HG.out.below hB2).alloc o)
      have B2 := Lib.hid hB2
      clear hb1 hb2 hB2 G1 hk'
      go_wp2_with fail
      refine (alive_c _ (G2 _).out).mono ?_
      rintro e w3 ⟨rfl, hb3⟩
      obtain ⟨hB3, _, _⟩ := box_then B2.out B2.out.size hb3
      have B3 := Lib.hid hB3
      clear hb3 hB3
      go_wp2_with fail
      go_ret
      exact ⟨rfl, B3.out⟩
    · have G1 := HG.out.below hb1
      have hk' : (k : Int) ≠ 0 := by omega
      have hkb : ((k : Int) == 0) = false := beq_eq_false_iff_ne.2 hk'
      have hk3 : 32 < (k : Int) := by omega
      refine (parse_bad _ (toksS k) 119 19 _ G1 (by rw [size_S]; omega) (lex_of k hk40 r Hr.out) (by decide) (by decide) (fun W p tb hG' hP hp => all_deep p tb k W hG' hP hp (by omega))).mono ?_
      rintro e w2 ⟨rfl, hb2⟩
      have hB2 := hb1.trans (hb2.mono hb1.size)
      have G2 := fun o => Lib.hid ((HG.out.below hB2).alloc o)
      have B2 := Lib.hid hB2
      clear hb1 hb2 hB2 G1 hk'
      go_wp2_with fail
      refine (alive_c _ (G2 _).out).mono ?_
      rintro e w3 ⟨rfl, hb3⟩
      obtain ⟨hB3, _, _⟩ := box_then B2.out B2.out.size hb3
      have B3 := Lib.hid hB3
      clear hb3 hB3
      go_wp2_with fail
      go_ret
      exact ⟨rfl, B3.out⟩
end Go.Proofs.YthpanohdfelkhaaGreatDoor
