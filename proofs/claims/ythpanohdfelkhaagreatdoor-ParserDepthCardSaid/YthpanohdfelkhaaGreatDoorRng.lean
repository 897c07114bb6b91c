/- A range over a function whose iterator yields a known sequence and whose body never leaves early: one law, over an invariant that depends on the blocks that lay before the loop. The iterator may keep state in cells of its own. -/
import Derived.Test.YthpanohdfelkhaaGreatDoorBase
import Derived.Test.YthpanohdfelkhaaGreatDoorMapRun
import Derived.RangeFuncNested
import Derived.RangeFuncBound
import Derived.RangeFuncCalls
import Derived.RangeFuncLeaves
import Derived.Shelf.Abstract
import Derived.Shelf.RegionOpen
import Derived.OwnWalkIn
import Derived.TacticsInMore
import Derived.LoopNIn
import Derived.LoopIn
namespace Go.Proofs.YthpanohdfelkhaaGreatDoor
open Go.RowKit Go.Shelf
theorem blk_own {W W' : World} {row : Option Nat} {B : Nat} {cs : Array Value} {t : TypeId} {f : Nat × Nat} (h : W.heap[B]? = some (.cells cs t f)) (hg : W.grownBy W' row) (hr : ∀ r, row = some r → ∃ o : Obj, W.heap[r]? = some o ∧ o.isCells = false) : W'.heap[B]? = some (.cells cs t f) :=
  (hg.block B (lt_of_blk h) (fun e => by obtain ⟨o, ho, hc⟩ := hr B e.symm; rw [h] at ho; cases ho; cases hc)).trans h
theorem cellB {W : World} {B : Nat} {v : Value} {t : TypeId} (h : W.heap[B]? = some (.cells #[v] t (0, 0))) : W.cell? ⟨B, 0, none⟩ = some v ∧ W.frozen? ⟨B, 0, none⟩ = false :=
  ⟨by rw [cell_of_blk h]; rfl, frozen_of_blk h 0⟩
theorem cellP {W : World} {B : Nat} {u v : Value} {t : TypeId} (h : W.heap[B]? = some (.cells #[u, v] t (0, 0))) : W.cell? ⟨B, 0, none⟩ = some u ∧ W.cell? ⟨B, 1, none⟩ = some v ∧ W.frozen? ⟨B, 0, none⟩ = false ∧ W.frozen? ⟨B, 1, none⟩ = false :=
  ⟨by rw [cell_of_blk h]; rfl, by rw [cell_of_blk h]; rfl, frozen_of_blk h 0, frozen_of_blk h 1⟩
/-- every row of cells but L's is kept -/
def KeepC (L : Nat) (W W' : World) : Prop := ∀ k cs t f, W.heap[k]? = some (.cells cs t f) → k ≠ L → W'.heap[k]? = some (.cells cs t f)
theorem KeepC.trans {L : Nat} {A B C : World} (h : KeepC L A B) (k : KeepC L B C) : KeepC L A C := fun i cs t f hi hl => k i cs t f (h i cs t f hi hl) hl
theorem KeepC.cell {L : Nat} {W W' : World} (h : KeepC L W W') {b o : Nat} {v : Value} (hc : W.cell? ⟨b, o, none⟩ = some v) (hb : b ≠ L) : W'.cell? ⟨b, o, none⟩ = some v := by
  unfold World.cell? at hc ⊢
  dsimp only at hc ⊢
  cases ho : W.heap[b]? with
  | none => rw [ho] at hc; cases hc
  | some ob =>
    rw [ho] at hc
    cases ob with
    | cells cs t f => rw [h b cs t f ho hb]; exact hc
    | _ => cases hc
theorem KeepC.of_below {L : Nat} {W W' : World} (h : Below W.heap.size W W') : KeepC L W W' := fun k _ _ _ hk _ => (h.block k (lt_of_blk hk)).trans hk
theorem keepC_put {L : Nat} (W : World) (l : Nat) (o o' : Obj) (h : W.heap[l]? = some o) (hc : o.isCells = false) : KeepC L W (W.putObj l o') := fun k cs t f hk _ =>
  blk_own hk (grownBy_putObj' W l o') (fun r e => by cases e; exact ⟨o, h, hc⟩)
theorem below_putO {B : Nat} {W : World} {l : Nat} (o' : Obj) (hB : B ≤ l) (hz : l < W.heap.size) : Below B W (W.putObj l o') :=
  (Below.refl B W).grown (grownBy_putObj' W l o') (by omega) (fun k e => by cases e; exact hB)
/-- it depends on the blocks below B alone -/
def Dep (B : Nat) (J : Nat → World → Prop) : Prop := ∀ s W W', J s W → Below B W W' → J s W'
/-- the iterator yields the sequence, where each round says 'go on' -/
def Yields (P : Program) (g : Nat) (lb : Array Value) (encs : List (Array Value)) (Kp : World → World → Prop) (w : World) : Prop :=
  ∀ (l n : Nat) (J : Nat → World → Prop) (W : World), 1 ≤ n → Below w.heap.size w W → Dep W.heap.size J →
    (∀ i W1 x, J i W1 → encs[i]? = some x → YieldAt Fence.wide (n - 1) P l x W1 fun e W' => e = .returned (.bool true) ∧ J (i + 1) W' ∧ Kp W1 W') → J 0 W →
    CallsIn Fence.wide n P g (#[.func (.yield l) #[] #[]] ++ lb) W fun e W' => (∃ v, e = .returned v) ∧ J encs.length W'
def bodyKeeps (D : Nat) (Kp : World → World → Prop) (I : Nat → World → Prop) (i : Nat) (W : World) : Exit → Act → World → Prop
  | .normal, _, W' => (W'.heap[D]? = W.heap[D]? ∧ W'.heap[D + 1]? = W.heap[D + 1]?) ∧ Kp W W' ∧ I i W'
  | _, _, _ => False
theorem range_seq {P : Program} {n : Nat} {g : Operand} {ps : Array Tmp} {assign body : Code} {Q : Exit → Act → World → Prop} {a : Act} {w : World} {gf : Nat} {lb : Array Value}
    (h2 : 2 ≤ n) (hg : a.eval g = .func (.func gf) #[] lb) (eg : ∀ args w, (callFunc gf args).run P w = .ok (.enter gf args) w)
    (encs : List (Array Value)) (Kp : World → World → Prop) (hseq : Yields P gf lb encs Kp w)
    (hKt : ∀ {A B C : World}, Kp A B → Kp B C → Kp A C) (hKb : ∀ (W : World) (l : Nat) (o o' : Obj), W.heap[l]? = some o → o.isCells = false → Kp W (W.putObj l o'))
    (hKa : ∀ W W' : World, Below W.heap.size W W' → Kp W W') (hps : ∀ (i : Nat) (x : Array Value), encs[i]? = some x → x.size = ps.size)
    (I : Nat → World → Prop) (hI : Dep w.heap.size I) (h0 : I 0 w) (Ax : Nat → Act → World → Prop)
    (hAx : ∀ i a' W l r o, Ax i a' W → W.heap[l]? = some (.loop r) → Ax i a' (W.putObj l o))
    (hassign : ∀ (l i : Nat) (x : Array Value) (W : World) (K : Act → World → Prop), encs[i]? = some x → w.heap.size < W.heap.size → I i W → (∀ a' W', Below W.heap.size W W' → Ax i a' W' → K a' W') →
      assign.wpIn (Fence.wide.inRound l) (n - 1 - 1) P (Exit.then K (fun _ _ _ => False)) { tmps := (ps.zip x).foldl (fun t (p, v) => t.setIfInBounds p v) a.tmps, defers := [] } W)
    (hbody : ∀ (l i : Nat) (x : Array Value) (a' : Act) (W : World), encs[i]? = some x → w.heap.size + 1 < W.heap.size → I i W → Ax i a' W →
      body.wpIn (Fence.wide.inRound l) (n - 1 - 1) P (bodyKeeps w.heap.size Kp I (i + 1) W) a' W)
    (hdone : ∀ (W : World), w.heap.size < W.heap.size → I encs.length W → W.heap[w.heap.size]? = some (.deferred (some [])) → Q .normal { a with defers := { target := .collected w.heap.size, args := #[] } :: a.defers } W) :
    (Code.rangeFunc g ps assign body).wpIn Fence.wide n P Q a w := by
  refine wpIn_rangeFunc ?_
  intro fn hfn
  obtain ⟨rec, hrec⟩ : ∃ rec : LoopState → Loop, rec = fun st => { state := st, pending := none, fn, tmps := a.tmps, params := ps, assign, body, defers := w.heap.size } := ⟨_, rfl⟩
  have e1 : (w.alloc (.deferred (some []))).heap.size = w.heap.size + 1 := World.size_alloc _ _
  have a1 := heap_new (w.alloc (.deferred (some []))) (.loop (rec .ready))
  have a0 := (Below.heap_alloc (w.alloc (.deferred (some []))) (.loop (rec .ready)) w.heap.size (by omega)).trans (heap_new w (.deferred (some [])))
  rw [e1] at a1
  have eb : Below w.heap.size w ((w.alloc (.deferred (some []))).alloc (.loop (rec .ready))) := ((Below.refl _ w).alloc (Nat.le_refl _) _).alloc (by omega) _
  have es : ((w.alloc (.deferred (some []))).alloc (.loop (rec .ready))).heap.size = w.heap.size + 2 := by rw [World.size_alloc, e1]
  refine ⟨w.heap.size + 1, [{ target := .collected w.heap.size, args := #[] }], (w.alloc (.deferred (some []))).alloc (.loop (rec .ready)), { target := .fn (.func gf) lb, args := #[.func (.yield (w.heap.size + 1)) #[] #[]] }, (w.alloc (.deferred (some []))).alloc (.loop (rec .ready)), gf,
    #[.func (.yield (w.heap.size + 1)) #[] #[]] ++ lb, (w.alloc (.deferred (some []))).alloc (.loop (rec .ready)), ?_, ?_, ?_, ?_, ?_, ?_⟩
  · rw [hrec]; exact run_enterLoop_outer _ _ _ _ _
  · simp only [resolve, hg]
    simp [go_sem]
  · intro f' _; trivial
  · simp [invoke, go_sem, eg]
  · intro h; cases h
  · generalize (w.alloc (.deferred (some []))).alloc (.loop (rec .ready)) = V at a1 a0 eb es ⊢
    refine (hseq (w.heap.size + 1) (n - 1) (fun i W => I i W ∧ W.heap[w.heap.size + 1]? = some (.loop (rec .ready)) ∧ W.heap[w.heap.size]? = some (.deferred (some []))) V (by omega) eb ?_ ?_ ⟨hI _ _ _ h0 eb, a1, a0⟩).mono ?_
    · rintro s A B ⟨h1, h2, h3⟩ hb
      exact ⟨hI _ _ _ h1 (hb.mono (by omega)), (hb.block _ (by omega)).trans h2, (hb.block _ (by omega)).trans h3⟩
    · rintro i W x ⟨hi, hl, hk⟩ hx
      have hz : w.heap.size + 1 < W.heap.size := (Array.getElem?_eq_some_iff.1 hl).1
      have hy := run_yield (P := P) (args := x) hl (by rw [hrec]; exact hps i x hx)
      rw [hrec] at hy
      refine ⟨fn, _, assign, body, hy, roundIn_of_wpIn hfn (hassign (w.heap.size + 1) i x W _ hx (by omega) hi ?_)⟩
      intro a' W1 hb1 hax
      have hs1 := hb1.size
      have l1 := (hb1.block _ hz).trans hl
      have k1 := (hb1.block w.heap.size (by omega)).trans hk
      refine ⟨_, run_beginRound l1 (by rw [hrec]), ?_⟩
      have l2 : (W1.putObj (w.heap.size + 1) (.loop { rec .ready with state := .busy })).heap[w.heap.size + 1]? = some (.loop { rec .ready with state := .busy }) := World.putObj_heap_same (by omega)
      have k2 : (W1.putObj (w.heap.size + 1) (.loop { rec .ready with state := .busy })).heap[w.heap.size]? = some (.deferred (some [])) := (World.putObj_heap_other (by omega)).trans k1
      have z2 : w.heap.size + 1 < (W1.putObj (w.heap.size + 1) (.loop { rec .ready with state := .busy })).heap.size := (Array.getElem?_eq_some_iff.1 l2).1
      refine wpIn_mono (hbody (w.heap.size + 1) i x a' _ hx z2 (hI _ _ _ hi ((hb1.mono (by omega)).trans (below_putO _ (by omega) (by omega)))) (hAx _ _ _ _ _ _ hax l1)) ?_
      rintro e a3 W3 hp
      cases e with
      | normal =>
        obtain ⟨⟨hk3, hl3⟩, hkp3, hi3⟩ := hp
        have l3 := hl3.trans l2
        have z3 : w.heap.size + 1 < W3.heap.size := (Array.getElem?_eq_some_iff.1 l3).1
        have hr := run_endRound (P := P) none l3
        refine ⟨_, _, hr, rfl, ⟨hI _ _ _ hi3 (below_putO _ (by omega) z3), ?_, ?_⟩, hKt (hKt (hKa _ _ hb1) (hKb _ _ _ _ l1 rfl)) (hKt hkp3 (hKb _ _ _ _ l3 rfl))⟩
        · rw [World.putObj_heap_same z3, hrec]; rfl
        · exact (World.putObj_heap_other (by omega)).trans (hk3.trans k2)
      | _ => exact hp.elim
    · rintro e W2 ⟨⟨v, rfl⟩, hi, hl, hk⟩
      have z2 : w.heap.size + 1 < W2.heap.size := (Array.getElem?_eq_some_iff.1 hl).1
      have he := run_endLoop (P := P) hl (by rw [hrec]; simp)
      have hpe : (rec .ready).pending = none := by rw [hrec]
      rw [hpe] at he
      refine ⟨none, _, he, hdone _ ?_ (hI _ _ _ hi (below_putO _ (by omega) z2)) ((World.putObj_heap_other (by omega)).trans hk)⟩
      exact Nat.lt_of_lt_of_le (by omega) (grownBy_putObj' W2 (w.heap.size + 1) _).size
end Go.Proofs.YthpanohdfelkhaaGreatDoor
