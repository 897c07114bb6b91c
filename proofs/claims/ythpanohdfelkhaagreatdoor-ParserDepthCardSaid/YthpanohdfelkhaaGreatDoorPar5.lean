/- The parser's look-up of a local's name: local, named, the closures and slices.IndexFunc over locals. The parser's state (PS) is given; of what lay in memory only the parser's own block changes. -/
import Derived.Test.YthpanohdfelkhaaGreatDoorPar4
namespace Go.Proofs.YthpanohdfelkhaaGreatDoor
open Go.RowKit
/-- locals in a row of cells -/
def LocsAt (w : World) (b : Nat) : Nat → List (List UInt8 × Int) → Prop
  | _, [] => True
  | o, x :: l => (w.cell? ⟨b, o, none⟩ = some (.string ⟨x.1.toArray⟩) ∧ w.cell? ⟨b, o + 1, none⟩ = some (.int .i64 x.2)) ∧ LocsAt w b (o + 2) l
theorem LocsAt.keep {w w' : World} {b : Nat} : ∀ {l : List (List UInt8 × Int)} {o : Nat}, LocsAt w b o l → w'.heap[b]? = w.heap[b]? → LocsAt w' b o l
  | [], _, _, _ => trivial
  | _ :: _, _, ⟨⟨h1, h2⟩, h3⟩, hb => by
    have e : ∀ o, w'.cell? ⟨b, o, none⟩ = w.cell? ⟨b, o, none⟩ := fun o => World.cell?_of_block (w := w) (a := ⟨b, o, none⟩) hb
    exact ⟨⟨(e _).trans h1, (e _).trans h2⟩, LocsAt.keep h3 hb⟩
theorem LocsAt.at {w : World} {b : Nat} : ∀ {l : List (List UInt8 × Int)} {o k : Nat} {x : List UInt8 × Int}, LocsAt w b o l → l[k]? = some x → w.cell? ⟨b, o + k * 2, none⟩ = some (.string ⟨x.1.toArray⟩) ∧ w.cell? ⟨b, o + k * 2 + 1, none⟩ = some (.int .i64 x.2)
  | [], _, _, _, _, h => by simp at h
  | y :: l, o, 0, x, ⟨h1, _⟩, h => by simp at h; subst h; simpa using h1
  | y :: l, o, k + 1, x, ⟨_, h2⟩, h => by
    have := LocsAt.at (k := k) h2 (by simpa using h)
    rw [show o + (k + 1) * 2 = o + 2 + k * 2 by omega]; exact this
def LocSl (w : World) (v : Value) (ls : List (List UInt8 × Int)) : Prop :=
  (v = .slice none 0 0 ∧ ls = []) ∨ ∃ lb lo c, v = .slice (some ⟨lb, lo, none⟩) ls.length c ∧ ls.length ≤ c ∧ lb < w.heap.size ∧ LocsAt w lb lo ls
/-- the place of the first local of a name -/
def idxN : List (List UInt8 × Int) → List UInt8 → Nat → Int
  | [], _, _ => -1
  | z :: zs, x, i => if z.1 = x then i else idxN zs x (i + 1)
set_option maxRecDepth 100000 in
set_option maxHeartbeats 400000 in
theorem nameIs_c (nm x : List UInt8) (ty : Int) (sb : Nat) (w : World) (hs : w.cell? ⟨sb, 0, none⟩ = some (.string ⟨x.toArray⟩)) (hlt : sb < w.heap.size) :
    Calls Tryz.prog 136 #[.agg #[.string ⟨nm.toArray⟩, .int .i64 ty], .pointer (some ⟨sb, 0, none⟩)] w fun r w' => r = .returned (.bool (nm == x)) ∧ Below w.heap.size w w' := by
  go_enter Tryz.func136, Tryz.ntmps136
  go_wp2_with fail
  go_ret
  exact ⟨rfl, (Below.refl _ _).alloc (Nat.le_refl _) _⟩
theorem nameIs_is (nm x : List UInt8) (ty : Int) (sb : Nat) (v : Bool) (w : World) (hs : w.cell? ⟨sb, 0, none⟩ = some (.string ⟨x.toArray⟩)) (hlt : sb < w.heap.size) (hv : (nm == x) = v) :
    Calls Tryz.prog 136 #[.agg #[.string ⟨nm.toArray⟩, .int .i64 ty], .pointer (some ⟨sb, 0, none⟩)] w fun r w' => r = .returned (.bool v) ∧ Below w.heap.size w w' := hv ▸ nameIs_c nm x ty sb w hs hlt
theorem idxN_drop (x : List UInt8) : ∀ (ls : List (List UInt8 × Int)) (k i : Nat), k ≤ ls.length → (∀ j y, j < k → ls[j]? = some y → y.1 ≠ x) → idxN ls x i = idxN (ls.drop k) x (i + k)
  | ls, 0, i, _, _ => by simp
  | [], k + 1, i, h, _ => by simp at h
  | z :: zs, k + 1, i, h, hn => by
    have h0 := hn 0 z (by omega) rfl
    have := idxN_drop x zs k (i + 1) (by simpa using h) (fun j y hj hy => hn (j + 1) y (by omega) (by simpa using hy))
    rw [List.drop_succ_cons, show i + (k + 1) = i + 1 + k by omega, ← this]
    show (if z.1 = x then (i : Int) else idxN zs x (i + 1)) = _
    rw [if_neg h0]
set_option maxRecDepth 100000 in
set_option maxHeartbeats 1000000 in
theorem indexFunc_some (x : List UInt8) (sb lb lo c : Nat) (ls : List (List UInt8 × Int)) (w : World) (hs : w.cell? ⟨sb, 0, none⟩ = some (.string ⟨x.toArray⟩)) (hlt : sb < w.heap.size) (hlb : lb < w.heap.size) (_hc : ls.length ≤ c) (hlen : ls.length ≤ 1000000000) (hl : LocsAt w lb lo ls) :
    Calls Tryz.prog 135 #[.slice (some ⟨lb, lo, none⟩) ls.length c, .func (.func 136) #[] #[.pointer (some ⟨sb, 0, none⟩)]] w fun r w' => r = .returned (.int .i64 (idxN ls x 0)) ∧ Below w.heap.size w w' := by
  go_enter Tryz.func135, Tryz.ntmps135
  go_wp2_with fail
  go_loopw [5, 8] (fun _ i wr => ∃ k : Nat, i = .int .i64 k ∧ k ≤ ls.length ∧ (∀ j y, j < k → ls[j]? = some y → y.1 ≠ x) ∧ Below w.heap.size w wr) (fun _ i _ => ls.length - (intOf i).toNat)
  case atStart => exact ⟨0, rfl, Nat.zero_le _, fun j y hj => by omega, Below.refl _ _⟩
  case round =>
    obtain ⟨k, rfl, hk, hn, hb⟩ := hrel
    have Hn := Lib.hid hn; clear hn
    by_cases hkl : k < ls.length
    · obtain ⟨y, hy⟩ : ∃ y, ls[k]? = some y := ⟨_, List.getElem?_eq_getElem hkl⟩
      obtain ⟨hc1, hc2⟩ := (hl.keep (hb.block lb hlb)).at hy
      have Hy := Lib.hid hy; clear hy
      have hs1 : wr.cell? ⟨sb, 0, none⟩ = some (.string ⟨x.toArray⟩) := (hb.cell (p := ⟨sb, 0, none⟩) hlt).trans hs
      have hlt1 : sb < wr.heap.size := Nat.lt_of_lt_of_le hlt hb.size
      have Hb := Lib.hid hb; clear hb
      cases hv : (y.1 == x) with
      | false =>
        have Hv := Lib.hid hv; clear hv
        go_wp2_with (first | (go_at_call 136; refine (nameIs_is y.1 x y.2 sb false _ hs1 hlt1 Hv.out).mono ?_; rintro e w1 ⟨rfl, hb1⟩))
        refine ⟨⟨k + 1, by simp, hkl, ?_, Hb.out.trans (hb1.mono Hb.out.size)⟩, by simp [intOf]; omega⟩
        intro j z hj hz
        by_cases e : j = k
        · subst e
          rw [Hy.out] at hz; injection hz with hz; subst hz
          simpa using Hv.out
        · exact Hn.out j z (by omega) hz
      | true =>
        have Hv := Lib.hid hv; clear hv
        go_wp2_with (first | (go_at_call 136; refine (nameIs_is y.1 x y.2 sb true _ hs1 hlt1 Hv.out).mono ?_; rintro e w1 ⟨rfl, hb1⟩))
        go_ret
        refine ⟨?_, Hb.out.trans (hb1.mono Hb.out.size)⟩
        rw [idxN_drop x ls k 0 hk Hn.out]
        have hd : ls.drop k = y :: ls.drop (k + 1) := by
          rw [List.drop_eq_getElem_cons hkl]
          have := Hy.out; rw [List.getElem?_eq_getElem hkl] at this; injection this with this; rw [this]
        rw [hd, Nat.zero_add]
        show _ = Ending.returned (.int .i64 (if y.1 = x then (k : Int) else idxN (ls.drop (k + 1)) x (k + 1)))
        rw [if_pos (by simpa using Hv.out)]
        rfl
    · go_wp2_with fail
      have hk2 : k = ls.length := by omega
      go_ret
      refine ⟨?_, hb⟩
      rw [idxN_drop x ls k 0 hk Hn.out, hk2, List.drop_length]
      rfl
set_option maxRecDepth 100000 in
set_option maxHeartbeats 400000 in
theorem indexFunc_nil (sb : Nat) (w : World) :
    Calls Tryz.prog 135 #[.slice none 0 0, .func (.func 136) #[] #[.pointer (some ⟨sb, 0, none⟩)]] w fun r w' => r = .returned (.int .i64 (-1)) ∧ Below w.heap.size w w' := by
  go_enter Tryz.func135, Tryz.ntmps135
  go_wp2_with fail
  go_loopw [5, 8] (fun _ i wr => i = .int .i64 0 ∧ wr = w) (fun _ _ _ => 0)
  case atStart => exact ⟨rfl, rfl⟩
  case round =>
    obtain ⟨rfl, rfl⟩ := hrel
    go_wp2_with fail
    go_ret
    exact ⟨rfl, Below.refl _ _⟩
theorem indexFunc_any (x : List UInt8) (sb : Nat) (v : Value) (ls : List (List UInt8 × Int)) (i : Int) (w : World) (hs : w.cell? ⟨sb, 0, none⟩ = some (.string ⟨x.toArray⟩)) (hlt : sb < w.heap.size) (hlen : ls.length ≤ 1000000000) (hl : LocSl w v ls) (hi : idxN ls x 0 = i) :
    Calls Tryz.prog 135 #[v, .func (.func 136) #[] #[.pointer (some ⟨sb, 0, none⟩)]] w fun r w' => r = .returned (.int .i64 i) ∧ Below w.heap.size w w' := by
  rcases hl with ⟨rfl, rfl⟩ | ⟨lb, lo, c, rfl, hc, hlb, hl⟩
  · have hi' : i = -1 := by rw [← hi]; rfl
    subst hi'
    exact indexFunc_nil sb w
  · subst hi
    exact indexFunc_some x sb lb lo c ls w hs hlt hlb hc hlen hl
theorem LocSl.keep {w w' : World} {v : Value} {ls : List (List UInt8 × Int)} (h : LocSl w v ls) (hs : w.heap.size ≤ w'.heap.size) (hb : ∀ k, (∃ o n c, v = .slice (some ⟨k, o, none⟩) n c) → k < w.heap.size → w'.heap[k]? = w.heap[k]?) : LocSl w' v ls := by
  rcases h with h | ⟨lb, lo, c, rfl, hc, hlb, hl⟩
  · exact .inl h
  · exact .inr ⟨lb, lo, c, rfl, hc, Nat.lt_of_lt_of_le hlb hs, hl.keep (hb lb ⟨_, _, _, rfl⟩ hlb)⟩
theorem LocSl.below {w w' : World} {v : Value} {ls : List (List UInt8 × Int)} (h : LocSl w v ls) (hb : Below w.heap.size w w') : LocSl w' v ls := h.keep hb.size fun k _ hk => hb.block k hk
set_option maxRecDepth 100000 in
set_option maxHeartbeats 400000 in
/-- the closure that looks a local's name up -/
theorem known_local (p tb pb : Nat) (toks : List Tok) (bv : BV) (x : List UInt8) (ls : List (List UInt8 × Int)) (i : Int) (w : World) (h : PS w p tb toks bv) (hpb : w.cell? ⟨pb, 0, none⟩ = some (.pointer (some ⟨p, 0, none⟩))) (hlen : ls.length ≤ 1000000000) (hl : LocSl w bv.lc ls) (hi : idxN ls x 0 = i) :
    Calls Tryz.prog 134 #[.string ⟨x.toArray⟩, .pointer (some ⟨pb, 0, none⟩)] w fun r w' => r = .returned (.int .i64 i) ∧ Below w.heap.size w w' := by
  have hp := h.plt
  have hpl := block_of_cell hpb
  have hc5 : w.cell? ⟨p, 5, none⟩ = some bv.lc := by
    obtain ⟨ao, c, h⟩ := h
    rw [cell_of_blk h.blk]; rfl
  have hsb : ∀ o, (w.alloc o).heap[w.heap.size]? = some o := fun o => heap_new w o
  have hl1 : ∀ o, LocSl (w.alloc o) bv.lc ls := fun o => hl.below ((Below.refl _ _).alloc (Nat.le_refl _) o)
  have Hi := Lib.hid hi; clear hi h
  go_enter Tryz.func134, Tryz.ntmps134
  go_wp2_with (first | (go_at_call 135; refine (indexFunc_any x w.heap.size bv.lc ls i _ (by simp [go_sem]) (by simp) hlen (hl1 _) Hi.out).mono ?_; rintro e w1 ⟨rfl, hb1⟩))
  go_ret
  exact ⟨rfl, ((Below.refl _ _).alloc (Nat.le_refl _) _).trans (hb1.mono (by simp))⟩
/-- what 'local' says of a token -/
def knownFn (pb : Nat) : Value := .func (.func 134) #[] #[.pointer (some ⟨pb, 0, none⟩)]
set_option maxRecDepth 100000 in
set_option maxHeartbeats 400000 in
theorem named_yes (p tb pb : Nat) (t : Tok) (ts : List Tok) (bv : BV) (ls : List (List UInt8 × Int)) (k i : Int) (w : World) (h : PS w p tb (t :: ts) bv) (hpb : w.cell? ⟨pb, 0, none⟩ = some (.pointer (some ⟨p, 0, none⟩))) (hlen : ls.length ≤ 1000000000) (hl : LocSl w bv.lc ls) (hk : (t.k != k) = false) (hk0 : (t.k != 0) = true) (hi : idxN ls t.tx 0 = i) (hi0 : 0 ≤ i) (hts : ts ≠ []) :
    Calls Tryz.prog 74 #[.pointer (some ⟨p, 0, none⟩), .int .i64 k, .func (.func 134) #[] #[.pointer (some ⟨pb, 0, none⟩)]] w fun r w' => r = .returned (.int .i64 i) ∧ PS w' p tb ts bv ∧ Fr p w w' := by
  have hpl := block_of_cell hpb
  have hf1 := tok_f1
  have Hi := Lib.hid hi; clear hi
  go_enter Tryz.func74, Tryz.ntmps74
  go_wp2_with (first | (go_at_call 90; refine (kind_yes p tb t ts bv k _ h hk).mono ?_; rintro e w1 ⟨rfl, hb1⟩; have hps1 := h.keep hb1; have hpb1 := (hb1.cell (p := ⟨pb, 0, none⟩) hpl).trans hpb; have hl1 := hl.below hb1) | (go_at_call 134; refine (known_local p tb pb _ bv t.tx ls i _ hps1 hpb1 hlen hl1 Hi.out).mono ?_; rintro e w2 ⟨rfl, hb2⟩; have hps2 := hps1.keep hb2) | (go_at_call 91; refine (next_c p tb t ts bv _ hps2 hk0 hts).mono ?_; rintro e w3 ⟨rfl, hps3, hfr⟩))
  go_ret
  exact ⟨rfl, hps3, (Fr.of_below hb1).trans ((Fr.of_below hb2).trans hfr)⟩
set_option maxRecDepth 100000 in
set_option maxHeartbeats 400000 in
theorem named_unknown (p tb pb : Nat) (t : Tok) (ts : List Tok) (bv : BV) (ls : List (List UInt8 × Int)) (k i : Int) (w : World) (h : PS w p tb (t :: ts) bv) (hpb : w.cell? ⟨pb, 0, none⟩ = some (.pointer (some ⟨p, 0, none⟩))) (hlen : ls.length ≤ 1000000000) (hl : LocSl w bv.lc ls) (hk : (t.k != k) = false) (hi : idxN ls t.tx 0 = i) (hi0 : i < 0) :
    Calls Tryz.prog 74 #[.pointer (some ⟨p, 0, none⟩), .int .i64 k, .func (.func 134) #[] #[.pointer (some ⟨pb, 0, none⟩)]] w fun r w' => r = FailV t.pos 20 ∧ Fr p w w' := by
  have hpl := block_of_cell hpb
  have hf1 := tok_f1
  have Hi := Lib.hid hi; clear hi
  go_enter Tryz.func74, Tryz.ntmps74
  go_wp2_with (first | (go_at_call 90; refine (kind_yes p tb t ts bv k _ h hk).mono ?_; rintro e w1 ⟨rfl, hb1⟩; have hps1 := h.keep hb1; have hpb1 := (hb1.cell (p := ⟨pb, 0, none⟩) hpl).trans hpb; have hl1 := hl.below hb1) | (go_at_call 134; refine (known_local p tb pb _ bv t.tx ls i _ hps1 hpb1 hlen hl1 Hi.out).mono ?_; rintro e w2 ⟨rfl, hb2⟩; have hps2 := hps1.keep hb2) | (go_at_call 89; refine (fail_c p tb t ts bv 20 _ hps2).mono ?_; rintro e w3 ⟨rfl, rfl⟩))
  exact ⟨rfl, rfl, (Fr.of_below hb1).trans (Fr.of_below hb2)⟩
set_option maxRecDepth 100000 in
set_option maxHeartbeats 400000 in
theorem local_yes (p tb : Nat) (t : Tok) (ts : List Tok) (bv : BV) (ls : List (List UInt8 × Int)) (i : Int) (w : World) (h : PS w p tb (t :: ts) bv) (hlen : ls.length ≤ 1000000000) (hl : LocSl w bv.lc ls) (hk : (t.k != 3) = false) (hi : idxN ls t.tx 0 = i) (hi0 : 0 ≤ i) (hts : ts ≠ []) :
    Calls Tryz.prog 98 #[.pointer (some ⟨p, 0, none⟩)] w fun r w' => r = .returned (.int .i64 i) ∧ PS w' p tb ts bv ∧ Fr p w w' := by
  have hk0 : (t.k != 0) = true := by rw [bne_iff_ne]; intro h0; rw [h0] at hk; simp at hk
  have hl1 : ∀ o, LocSl (w.alloc o) bv.lc ls := fun o => hl.below ((Below.refl _ _).alloc (Nat.le_refl _) o)
  have hps1 : ∀ o, PS (w.alloc o) p tb (t :: ts) bv := fun o => h.alloc o
  have Hi := Lib.hid hi; clear hi
  go_enter Tryz.func98, Tryz.ntmps98
  go_wp2_with (first | (go_at_call 74; refine (named_yes p tb w.heap.size t ts bv ls 3 i _ (hps1 _) (by simp [go_sem]) hlen (hl1 _) hk hk0 Hi.out hi0 hts).mono ?_; rintro e w1 ⟨rfl, hps2, hfr⟩))
  go_ret
  exact ⟨rfl, hps2, ((Fr.refl _ _).alloc _).trans hfr⟩
set_option maxRecDepth 100000 in
set_option maxHeartbeats 400000 in
theorem local_unknown (p tb : Nat) (t : Tok) (ts : List Tok) (bv : BV) (ls : List (List UInt8 × Int)) (i : Int) (w : World) (h : PS w p tb (t :: ts) bv) (hlen : ls.length ≤ 1000000000) (hl : LocSl w bv.lc ls) (hk : (t.k != 3) = false) (hi : idxN ls t.tx 0 = i) (hi0 : i < 0) :
    Calls Tryz.prog 98 #[.pointer (some ⟨p, 0, none⟩)] w fun r w' => r = FailV t.pos 20 ∧ Fr p w w' := by
  have hl1 : ∀ o, LocSl (w.alloc o) bv.lc ls := fun o => hl.below ((Below.refl _ _).alloc (Nat.le_refl _) o)
  have hps1 : ∀ o, PS (w.alloc o) p tb (t :: ts) bv := fun o => h.alloc o
  have Hi := Lib.hid hi; clear hi
  go_enter Tryz.func98, Tryz.ntmps98
  go_wp2_with (first | (go_at_call 74; refine (named_unknown p tb w.heap.size t ts bv ls 3 i _ (hps1 _) (by simp [go_sem]) hlen (hl1 _) hk Hi.out hi0).mono ?_; rintro e w1 ⟨rfl, hfr⟩))
  exact ⟨rfl, rfl, ((Fr.refl _ _).alloc _).trans hfr⟩
end Go.Proofs.YthpanohdfelkhaaGreatDoor
