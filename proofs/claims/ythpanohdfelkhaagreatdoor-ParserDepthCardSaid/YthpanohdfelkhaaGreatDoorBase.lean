/- Shared words for the walks of this seat: what a token, a row of tokens and the parser's state are in memory; 'only block p may have changed'. No condition. -/
import Derived.Test.YthpanohdfelkhaaGreatDoorProg
import Derived.Test.YthpanohdfelkhaaGreatDoorSpec
import Derived.WalkKit
import Derived.WalkLawsBesides
import Derived.WalkSpells
import Derived.Deep.RegionHeld3
import Derived.Lib.Hide
namespace Go.Proofs.YthpanohdfelkhaaGreatDoor
open Go.RowKit
/-- the token's four cells at block b, from offset o on -/
def TokAt (w : World) (b o : Nat) (t : Tok) : Prop :=
  w.cell? ⟨b, o, none⟩ = some (.int .i64 t.k) ∧ w.cell? ⟨b, o + 1, none⟩ = some (.string ⟨t.tx.toArray⟩) ∧ w.cell? ⟨b, o + 2, none⟩ = some (.int .i64 t.n) ∧ w.cell? ⟨b, o + 3, none⟩ = some (.int .i64 t.pos)
/-- tokens one behind the other -/
def ToksAt (w : World) (b : Nat) : Nat → List Tok → Prop
  | _, [] => True
  | o, t :: l => TokAt w b o t ∧ ToksAt w b (o + 4) l
/-- 'only block p may have changed' of what lay in memory; new blocks may have come. -/
structure Fr (p : Nat) (w w' : World) : Prop where
  os : w'.os = w.os
  tape : w'.tape = w.tape
  output : w'.output = w.output
  size : w.heap.size ≤ w'.heap.size
  block : ∀ k, k < w.heap.size → k ≠ p → w'.heap[k]? = w.heap[k]?
theorem Fr.refl (p : Nat) (w : World) : Fr p w w := ⟨rfl, rfl, rfl, Nat.le_refl _, fun _ _ _ => rfl⟩
theorem Fr.trans {p : Nat} {a b c : World} (h : Fr p a b) (k : Fr p b c) : Fr p a c :=
  ⟨k.os.trans h.os, k.tape.trans h.tape, k.output.trans h.output, Nat.le_trans h.size k.size, fun i hi hp => (k.block i (Nat.lt_of_lt_of_le hi h.size) hp).trans (h.block i hi hp)⟩
theorem Fr.of_below {p : Nat} {w w' : World} (h : Below w.heap.size w w') : Fr p w w' := ⟨h.os, h.tape, h.output, h.size, fun k hk _ => h.block k hk⟩
theorem Fr.drew {p : Nat} {a w : World} (h : Fr p a w) : Fr p a w.drew := ⟨h.os, h.tape, h.output, h.size, h.block⟩
theorem Fr.alloc {p : Nat} {a w : World} (h : Fr p a w) (o : Obj) : Fr p a (w.alloc o) :=
  h.trans ⟨rfl, rfl, rfl, by simp, fun k hk _ => Below.heap_alloc _ _ _ hk⟩
/-- a store into a block of the call's own, or into p -/
theorem Fr.setCell {p : Nat} {a w : World} (h : Fr p a w) {q : Addr} (hq : a.heap.size ≤ q.block ∨ q.block = p) (u : Value) : Fr p a (w.setCell q u) :=
  ⟨h.os, h.tape, h.output, by simpa [World.setCell] using h.size, fun k hk hp => by
    rw [Below.heap_setCell _ _ _ _ (by omega)]; exact h.block k hk hp⟩
theorem Fr.cell {p : Nat} {w w' : World} (h : Fr p w w') (b o : Nat) (hb : b < w.heap.size) (hp : b ≠ p) : w'.cell? ⟨b, o, none⟩ = w.cell? ⟨b, o, none⟩ :=
  World.cell?_of_block (w := w) (a := ⟨b, o, none⟩) (h.block b hb hp)
theorem Fr.frozen {p : Nat} {w w' : World} (h : Fr p w w') (b o : Nat) (hb : b < w.heap.size) (hp : b ≠ p) : w'.frozen? ⟨b, o, none⟩ = w.frozen? ⟨b, o, none⟩ :=
  World.frozen?_of_block (w := w) (a := ⟨b, o, none⟩) (h.block b hb hp)
theorem block_of_cell {w : World} {b o : Nat} {v : Value} (h : w.cell? ⟨b, o, none⟩ = some v) : b < w.heap.size := World.block_lt_of_cell? w ⟨b, o, none⟩ h
theorem TokAt.keep {w w' : World} {b o : Nat} {t : Tok} (h : TokAt w b o t) (hb : w'.heap[b]? = w.heap[b]?) : TokAt w' b o t := by
  unfold TokAt at *
  have e : ∀ o, w'.cell? ⟨b, o, none⟩ = w.cell? ⟨b, o, none⟩ := fun o => World.cell?_of_block (w := w) (a := ⟨b, o, none⟩) hb
  rw [e, e, e, e]; exact h
theorem ToksAt.keep {w w' : World} {b : Nat} : ∀ {l : List Tok} {o : Nat}, ToksAt w b o l → w'.heap[b]? = w.heap[b]? → ToksAt w' b o l
  | [], _, _, _ => trivial
  | _ :: _, _, ⟨h1, h2⟩, hb => ⟨h1.keep hb, ToksAt.keep h2 hb⟩
/-- the seven cells of a body -/
structure BV where
  nm : Value
  rg : Value
  ol : Value
  ty : Value
  lc : Value
  ar : Value
  bl : Value
/-- THE PARSER's STATE: block p holds the slice of the tokens that are left, and the body's seven cells. -/
structure PSt (w : World) (p ab ao c : Nat) (toks : List Tok) (bv : BV) : Prop where
  blk : w.heap[p]? = some (.cells #[.slice (some ⟨ab, ao, none⟩) toks.length c, bv.nm, bv.rg, bv.ol, bv.ty, bv.lc, bv.ar, bv.bl] 63 (0, 0))
  cap : toks.length ≤ c
  ne : ab ≠ p
  lt : ab < w.heap.size
  toks : ToksAt w ab ao toks
def PS (w : World) (p tb : Nat) (toks : List Tok) (bv : BV) : Prop := ∃ ao c, PSt w p tb ao c toks bv
theorem cell_of_blk {w : World} {p : Nat} {cs : Array Value} {t : TypeId} {f : Nat × Nat} (h : w.heap[p]? = some (.cells cs t f)) (o : Nat) : w.cell? ⟨p, o, none⟩ = cs[o]? := by
  simp [World.cell?, h]
theorem frozen_of_blk {w : World} {p : Nat} {cs : Array Value} {t : TypeId} (h : w.heap[p]? = some (.cells cs t (0, 0))) (o : Nat) : w.frozen? ⟨p, o, none⟩ = false := by
  simp [World.frozen?, h]
theorem lt_of_blk {w : World} {p : Nat} {ob : Obj} (h : w.heap[p]? = some ob) : p < w.heap.size := (Array.getElem?_eq_some_iff.1 h).1
theorem PSt.plt {w : World} {p ab ao c : Nat} {toks : List Tok} {bv : BV} (h : PSt w p ab ao c toks bv) : p < w.heap.size := lt_of_blk h.blk
theorem PSt.keep {w w' : World} {p ab ao c : Nat} {toks : List Tok} {bv : BV} (h : PSt w p ab ao c toks bv) (hb : Below w.heap.size w w') : PSt w' p ab ao c toks bv :=
  ⟨(hb.block p h.plt).trans h.blk, h.cap, h.ne, Nat.lt_of_lt_of_le h.lt hb.size, h.toks.keep (hb.block ab h.lt)⟩
theorem PS.keep {w w' : World} {p tb : Nat} {toks : List Tok} {bv : BV} (h : PS w p tb toks bv) (hb : Below w.heap.size w w') : PS w' p tb toks bv := by
  obtain ⟨ao, c, h⟩ := h; exact ⟨ao, c, h.keep hb⟩
theorem bcell {W w1 : World} (hb : Below W.heap.size W w1) : (∀ b o, b < W.heap.size → w1.cell? ⟨b, o, none⟩ = W.cell? ⟨b, o, none⟩) ∧ (∀ b o, b < W.heap.size → w1.frozen? ⟨b, o, none⟩ = W.frozen? ⟨b, o, none⟩) :=
  ⟨fun b o h => hb.cell (p := ⟨b, o, none⟩) h, fun b o h => hb.frozen (p := ⟨b, o, none⟩) h⟩
end Go.Proofs.YthpanohdfelkhaaGreatDoor
