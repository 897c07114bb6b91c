/- The tokens of ParserDepth's text, as the parser meets them. No program in sight. -/
import Derived.Test.YthpanohdfelkhaaGreatDoorPar12
namespace Go.Proofs.YthpanohdfelkhaaGreatDoor
open Go.RowKit
def tType (q : Int) : Tok := ⟨1, [116, 121, 112, 101], 0, q⟩
def tTyI (n q : Int) : Tok := ⟨6, [], n, q⟩
def tEq (q : Int) : Tok := ⟨8, [61], 0, q⟩
def tInt (q : Int) : Tok := ⟨1, [105, 110, 116], 0, q⟩
def tLet (q : Int) : Tok := ⟨1, [108, 101, 116], 0, q⟩
def tCopy (q : Int) : Tok := ⟨1, [99, 111, 112, 121], 0, q⟩
def tDot (q : Int) : Tok := ⟨8, [46], 0, q⟩
def tStar (q : Int) : Tok := ⟨8, [42], 0, q⟩
def dotsFrom : Nat → Int → List Tok → List Tok
  | 0, _, r => r
  | k + 1, q, r => tDot q :: tStar (q + 1) :: dotsFrom k (q + 2) r
theorem dots_from (k : Nat) : ∀ (q : Int) (r : List Tok), Dots k (dotsFrom k q r) r := by
  induction k with
  | zero => intro q r; rfl
  | succ k ih => intro q r; exact ⟨_, _, _, rfl, by simp [isIdx, idxW, tDot], by simp [isIdx, idxW, tStar], ih _ _⟩
theorem Ended.cons' {t : Tok} {ts : List Tok} (h : Ended ts) : Ended (t :: ts) := by
  obtain ⟨u, us, rfl⟩ := h.cons
  exact h
theorem ended_dots (k : Nat) : ∀ (q : Int) (r : List Tok), Ended r → Ended (dotsFrom k q r) := by
  induction k with
  | zero => intro q r h; exact h
  | succ k ih => intro q r h; exact ((ih _ _ h).cons').cons'
theorem dotPos_from (n : Nat) : ∀ (k : Nat) (q : Int) (r : List Tok), n < k → dotPos n (dotsFrom k q r) = q + 2 * n := by
  induction n with
  | zero => intro k q r h; obtain ⟨k, rfl⟩ : ∃ j, k = j + 1 := ⟨k - 1, by omega⟩; simp [dotsFrom, dotPos, tDot]
  | succ n ih =>
    intro k q r h
    obtain ⟨k, rfl⟩ : ∃ j, k = j + 1 := ⟨k - 1, by omega⟩
    show dotPos n (dotsFrom k (q + 2) r) = _
    rw [ih k _ r (by omega)]; push_cast; omega
def us4 (q : Int) : List Tok := [tSemi (q + 8), tClose (q + 10), tClose (q + 12), tEnd (q + 13)]
def rest2 (q : Int) : List Tok := [tClose (q + 12), tEnd (q + 13)]
def posK (k : Nat) : Int := 55 + 2 * k
def dts (k : Nat) : List Tok := dotsFrom k 55 (tSemi (posK k) :: tRet (posK k + 2) :: us4 (posK k))
def toksBl (k : Nat) : List Tok := tX 43 :: tEq 46 :: tCopy 48 :: tX 53 :: dts k
def toksA (k : Nat) : List Tok := tType 10 :: tTyI 0 15 :: tEq 18 :: tInt 20 :: tSemi 23 :: tLet 25 :: tX 29 :: tColon 31 :: tTyI 0 33 :: tSemi 35 :: tBlk 0 37 :: tColon 39 :: tOpen 41 :: toksBl k
def toksS (k : Nat) : List Tok := tBody :: tF :: tOpen 8 :: toksA k
def lsX : List (List UInt8 × Int) := [([120], 0)]
theorem ended_us (q : Int) : Ended (us4 q) := rfl
theorem ended_dts (k : Nat) : Ended (dts k) := ended_dots _ _ _ (((ended_us _).cons').cons')
theorem dts_ne (k : Nat) : dts k ≠ [] := by obtain ⟨_, _, h⟩ := (ended_dts k).cons; rw [h]; simp
theorem shapeK (k : Nat) : Shape lsX k (tX 43) (tEq 46) (tCopy 48) (tX 53) (dts k) (tSemi (posK k)) (tRet (posK k + 2)) (us4 (posK k)) (rest2 (posK k)) where
  v1 := by decide
  v2 := by decide
  v3 := by decide
  v4 := by decide
  v5 := by decide
  q1 := by decide
  q2 := by decide
  c1 := by decide
  c2 := by decide
  c3 := by decide
  c4 := by decide
  c5 := by decide
  c6 := by decide
  u1 := by decide
  u2 := by decide
  ds := dots_from _ _ _
  s1 := by simp [isIdx, idxW, tSemi]
  s2 := by simp [isIdx, idxW, tSemi]
  j1 := by simp [isIdx, idxW, tRet, jumpWords]
  us1 := by simp [us4]
  us2 := ended_us _
  us3 := by simp [expGo, semiWords, us4, isIdx, idxW, tSemi, tClose, rest2]
  e1 := (((ended_dts k).cons').cons').cons'
  e2 := ((ended_us _).cons').cons'
theorem dotPos_dts (k : Nat) (h : 32 < k) : dotPos 32 (dts k) = 119 := by
  unfold dts; rw [dotPos_from 32 k 55 _ h]; rfl
theorem StAt.base {w : World} {b base k : Nat} {st : Value} (h : StAt w base k st) (hb : b ≤ base) : StAt w b k st := by
  obtain ⟨sa0, sc0, a, sa, sc, h1, h2, h3, h4⟩ := h
  exact ⟨sa0, sc0, a, sa, sc, ownsRow_base h1 hb, by omega, h3, ownsRow_base h4 hb⟩
end Go.Proofs.YthpanohdfelkhaaGreatDoor
