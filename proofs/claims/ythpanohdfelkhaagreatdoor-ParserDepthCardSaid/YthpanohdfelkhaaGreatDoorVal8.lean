/- valid's checks of operand lists, rvalues and statements at ParserDepth's bodies. -/
import Derived.Test.YthpanohdfelkhaaGreatDoorVal7
namespace Go.Proofs.YthpanohdfelkhaaGreatDoor
open Go.RowKit
/-- an operand in memory: block a -/
def OpAt (w : World) (a : Nat) (sa : Option Addr) (k c : Nat) : Prop := w.cell? ⟨a, 0, none⟩ = some (.int .i64 0) ∧ w.cell? ⟨a, 1, none⟩ = some (.int .i64 0) ∧ w.cell? ⟨a, 2, none⟩ = some (.slice sa k c) ∧ w.cell? ⟨a, 3, none⟩ = some (.int .i64 0)
theorem OpAt.below {w w' : World} {a : Nat} {sa : Option Addr} {k c : Nat} (h : OpAt w a sa k c) (hb : Below w.heap.size w w') : OpAt w' a sa k c := by
  obtain ⟨h0, h1, h2, h3⟩ := h
  have hl := block_of_cell h0
  exact ⟨(hb.cell (p := ⟨a, 0, none⟩) hl).trans h0, (hb.cell (p := ⟨a, 1, none⟩) hl).trans h1, (hb.cell (p := ⟨a, 2, none⟩) hl).trans h2, (hb.cell (p := ⟨a, 3, none⟩) hl).trans h3⟩
set_option maxRecDepth 100000 in
set_option maxHeartbeats 2000000 in
theorem operands_some (gt tc gl lc : Nat) (ba : Option Addr) (bc r g k c a f : Nat) (w : World) (h : Cx w gt gl) (hk1 : 1 ≤ k) (hk32 : k ≤ 32) (hs : Stars w g k) (ho : OpAt w a (some ⟨g, 0, none⟩) k c) :
    Calls Tryz.prog 115 #[ckV gt tc gl lc ba bc r, .slice (some ⟨a, 0, none⟩) 1 1, .slice (some ⟨f, 0, none⟩) 1 1] w fun e w' => e = .returned (.int .i64 22) ∧ Below w.heap.size w w' := by
  have HB := fun a b => Lib.hid (((Below.refl _ w).alloc (Nat.le_refl _) a).alloc (by simp) b)
  have H0 := fun a b => Lib.hid (h.from (HB a b))
  have HS := fun a b => Lib.hid (hs.below (block_of_cell (hs 0 hk1).1) (HB a b).out)
  obtain ⟨o0, o1, o2, o3⟩ := ho
  have ha := block_of_cell o0
  clear HB h hs
  go_enter Tryz.func115, Tryz.ntmps115
  go_wp2_with fail
  refine wp_loop_rounds 1 ?_
  rw [rounds_succ]
  go_wp2_with (go_at_call 112; refine (operand_some gt tc gl lc ba bc r g k _ _ (H0 _ _).out hk1 hk32 (HS _ _).out).mono ?_; rintro e w1 ⟨rfl, hb1⟩; obtain ⟨B1, m0, m1, hz1⟩ := two_below hb1; clear hb1)
  go_ret
  exact ⟨rfl, B1.out⟩
set_option maxRecDepth 100000 in
set_option maxHeartbeats 2000000 in
theorem operands_none (gt tc gl lc : Nat) (ba : Option Addr) (bc r : Nat) (sa : Option Addr) (c a f : Nat) (w : World) (h : Cx w gt gl) (ho : OpAt w a sa 0 c) (hf : w.cell? ⟨f, 0, none⟩ = some (.int .i64 0)) :
    Calls Tryz.prog 115 #[ckV gt tc gl lc ba bc r, .slice (some ⟨a, 0, none⟩) 1 1, .slice (some ⟨f, 0, none⟩) 1 1] w fun e w' => e = .returned (.int .i64 0) ∧ Below w.heap.size w w' := by
  have HB := fun a b => Lib.hid (((Below.refl _ w).alloc (Nat.le_refl _) a).alloc (by simp) b)
  have H0 := fun a b => Lib.hid (h.from (HB a b))
  obtain ⟨o0, o1, o2, o3⟩ := ho
  have ha := block_of_cell o0
  have hfl := block_of_cell hf
  have HC := Lib.hid h
  clear HB h
  go_enter Tryz.func115, Tryz.ntmps115
  go_wp2_with fail
  go_loopw [7, 12] (fun _ i wr => (i = .int .i64 0 ∧ wr = w.alloc (.cells #[.string ⟨#[102]⟩, nilS, nilS, .slice (some ⟨gt, 0, none⟩) 1 tc, .slice (some ⟨gl, 0, none⟩) 1 lc, .int .i64 0, .slice ba 1 bc, .pointer (some ⟨r, 0, none⟩)] 122)) ∨ (i = .int .i64 1 ∧ Below w.heap.size w wr)) (fun _ i _ => 1 - (intOf i).toNat)
  case atStart => exact .inl ⟨rfl, rfl⟩
  case round =>
    rcases hrel with ⟨rfl, rfl⟩ | ⟨rfl, hb⟩
    · go_wp2_with (go_at_call 112; refine (operand_none gt tc gl lc ba bc r _ _ _ (H0 _ _).out).mono ?_; rintro e w1 ⟨rfl, hb1⟩; obtain ⟨B1, m0, m1, hz1⟩ := two_below hb1; obtain ⟨x0, x1, x2, x3, x4, x5, x6, x7⟩ := box8 m0; obtain ⟨y0, y1, y2, y3, yf0, yf1, yf2, yf3⟩ := box4' m1; have z0 := (B1.out.cell (p := ⟨f, 0, none⟩) hfl).trans hf; clear hb1)
      go_region_held3 (fun w' => w'.cell? ⟨w.heap.size, 0, none⟩ = some (.string ⟨#[102]⟩) ∧ w'.cell? ⟨w.heap.size, 1, none⟩ = some nilS ∧ w'.cell? ⟨w.heap.size, 2, none⟩ = some nilS ∧ w'.cell? ⟨w.heap.size, 3, none⟩ = some (.slice (some ⟨gt, 0, none⟩) 1 tc) ∧ w'.cell? ⟨w.heap.size, 4, none⟩ = some (.slice (some ⟨gl, 0, none⟩) 1 lc) ∧ w'.cell? ⟨w.heap.size, 5, none⟩ = some (.int .i64 0) ∧ w'.cell? ⟨w.heap.size, 6, none⟩ = some (.slice ba 1 bc) ∧ w'.cell? ⟨w.heap.size, 7, none⟩ = some (.pointer (some ⟨r, 0, none⟩)) ∧ w'.cell? ⟨w.heap.size + 1, 0, none⟩ = some (.int .i64 0) ∧ w'.cell? ⟨w.heap.size + 1, 1, none⟩ = some (.int .i64 0) ∧ w'.cell? ⟨w.heap.size + 1, 2, none⟩ = some (.slice sa 0 c) ∧ w'.cell? ⟨w.heap.size + 1, 3, none⟩ = some (.int .i64 0) ∧ w'.cell? ⟨f, 0, none⟩ = some (.int .i64 0)) (first | exact ⟨by assumption, by assumption, by assumption, by assumption, by assumption, by assumption, by assumption, by assumption, by assumption, by assumption, by assumption, by assumption, by assumption⟩ | go_keep) ((go_at_call 147; refine (fits_none gt tc gl lc ba bc r _ _ _ (HC.out.from (Lib.hid B1.out.drew))).mono ?_; rintro e w2 ⟨rfl, hb2⟩; have B2 : Hid (Below w.heap.size w w2) := B1.out.drew.trans (hb2.mono B1.out.drew.size); have n0 := (hb2.block w.heap.size (lt_of_blk m0)).trans m0; have n1 := (hb2.block (w.heap.size + 1) (lt_of_blk m1)).trans m1; obtain ⟨p0, p1, p2, p3, p4, p5, p6, p7⟩ := box8 n0; obtain ⟨q0, q1, q2, q3, qf0, qf1, qf2, qf3⟩ := box4' n1; have v0 := (hb2.cell (p := ⟨f, 0, none⟩) (Nat.lt_of_lt_of_le hfl B1.out.size)).trans z0; clear hb2))
      all_goals go_wp2_with fail
      all_goals exact ⟨.inr ⟨rfl, B2.out⟩, by simp [intOf]⟩
    · go_wp2_with fail
      go_ret
      exact ⟨rfl, hb⟩
end Go.Proofs.YthpanohdfelkhaaGreatDoor
