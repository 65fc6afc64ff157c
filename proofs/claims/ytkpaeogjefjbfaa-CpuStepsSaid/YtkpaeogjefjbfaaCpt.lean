/-
  Layer 6, plain: what a step may tell; a trapped one has changed nothing.
  Conditions: none. (My own text.)
-/
import Derived.Test.YtkpaeogjefjbfaaCst
import Derived.Test.YtkpaeogjefjbfaaSp6
namespace Go.Proofs.Ytkpaeogjefjbfaa
open Go.RowKit Spm
set_option linter.unusedVariables false
set_option linter.unusedSimpArgs false

/-- What an event may be, and what stands behind it. -/
structure EvtOk (L : List Rg) (r : Ctx × Evt × List Rg) : Prop where
  calm : r.2.1.k ≠ 5 → r.2.1.f = 0
  trap : r.2.1.k = 5 → r.2.1.f ≠ 0 ∧ r.2.2 = L
  kinds : r.2.1.k = 0 ∨ r.2.1.k = 2 ∨ r.2.1.k = 3 ∨ r.2.1.k = 4 ∨ r.2.1.k = 5
theorem evt_k {L : List Rg} (c : Ctx) (k n a b : Int) (h : k = 0 ∨ k = 2 ∨ k = 3 ∨ k = 4) (L2 : List Rg) : EvtOk L (c, ⟨k, n, a, b, 0⟩, L2) :=
  ⟨fun _ => rfl, fun h5 => by simp only at h5; omega, by simp only; omega⟩
theorem evt_0 {L : List Rg} (c : Ctx) (L2 : List Rg) : EvtOk L (c, ev0, L2) := evt_k c 0 0 0 0 (.inl rfl) L2
theorem evt_t {L : List Rg} (c : Ctx) {err : Int} (h : err ≠ 0) : EvtOk L (c, trapV err, L) := ⟨fun h5 => absurd rfl h5, fun _ => ⟨h, rfl⟩, .inr (.inr (.inr (.inr rfl)))⟩
theorem evt_ld {L : List Rg} (c : Ctx) (q : Int × Int) : EvtOk L (c, ldE ev0 q, L) := by
  unfold ldE; split; exact evt_0 _ _; rename_i h; exact evt_t c h
theorem evt_st {L : List Rg} (c : Ctx) (x : Int) (b : List UInt8) (p : Int) : EvtOk L (c, stE (setS L x b p).2, (setS L x b p).1) := by
  unfold stE; split; exact evt_0 _ _; rename_i h; rw [set_refused h]; exact evt_t c h
theorem evt_rt {L : List Rg} (c : Ctx) (q : Int) : EvtOk L (c, stE q, L) := by
  unfold stE; split; exact evt_0 _ _; rename_i h; exact evt_t c h
theorem actS_evt (cx : Ctx) (L : List Rg) (i : Ins) (nx : Int) : EvtOk L (actS cx L i nx) := by
  obtain ⟨R, hR⟩ : ∃ R, actS cx L i nx = R := ⟨_, rfl⟩
  rw [hR]
  unfold actS at hR
  by_cases h0 : i.op = 0
  · rw [if_pos h0] at hR; rw [← hR]; exact evt_t _ (by decide)
  rw [if_neg h0] at hR
  clear h0
  by_cases h1 : i.op = 1
  · rw [if_pos h1] at hR; rw [← hR]; exact evt_0 _ _
  rw [if_neg h1] at hR
  clear h1
  by_cases h2 : i.op = 2
  · rw [if_pos h2] at hR; rw [← hR]; exact evt_0 _ _
  rw [if_neg h2] at hR
  clear h2
  by_cases h9 : i.op = 9
  · rw [if_pos h9] at hR; rw [← hR]; exact evt_ld _ _
  rw [if_neg h9] at hR
  clear h9
  by_cases h10 : i.op = 10
  · rw [if_pos h10] at hR; rw [← hR]; exact evt_st _ _ _ _
  rw [if_neg h10] at hR
  clear h10
  by_cases h11 : i.op = 11
  · rw [if_pos h11] at hR; rw [← hR]; exact evt_ld _ _
  rw [if_neg h11] at hR
  clear h11
  by_cases h12 : i.op = 12
  · rw [if_pos h12] at hR; rw [← hR]; exact evt_0 _ _
  rw [if_neg h12] at hR
  clear h12
  by_cases h13 : i.op = 13
  · rw [if_pos h13] at hR; rw [← hR]; exact evt_0 _ _
  rw [if_neg h13] at hR
  clear h13
  by_cases h14 : i.op = 14
  · rw [if_pos h14] at hR; rw [← hR]; exact evt_0 _ _
  rw [if_neg h14] at hR
  clear h14
  by_cases h15 : i.op = 15
  · rw [if_pos h15] at hR; rw [← hR]; exact evt_st _ _ _ _
  rw [if_neg h15] at hR
  clear h15
  by_cases h16 : i.op = 16
  · rw [if_pos h16] at hR; rw [← hR]; exact evt_st _ _ _ _
  rw [if_neg h16] at hR
  clear h16
  by_cases h17 : i.op = 17
  · rw [if_pos h17] at hR; rw [← hR]; exact evt_0 _ _
  rw [if_neg h17] at hR
  clear h17
  by_cases h18 : i.op = 18
  · rw [if_pos h18] at hR; rw [← hR]; exact evt_rt _ _
  rw [if_neg h18] at hR
  clear h18
  by_cases h19 : i.op = 19
  · rw [if_pos h19] at hR; rw [← hR]; exact evt_k _ _ _ _ _ (by decide) _
  rw [if_neg h19] at hR
  clear h19
  by_cases h20 : i.op = 20
  · rw [if_pos h20] at hR; rw [← hR]; exact evt_0 _ _
  rw [if_neg h20] at hR
  clear h20
  by_cases h21 : i.op = 21
  · rw [if_pos h21] at hR; rw [← hR]; exact evt_k _ _ _ _ _ (by decide) _
  rw [if_neg h21] at hR
  clear h21
  by_cases h22 : i.op = 22
  · rw [if_pos h22] at hR; rw [← hR]; exact evt_k _ _ _ _ _ (by decide) _
  rw [if_neg h22] at hR
  clear h22
  by_cases hz : (rkS i.op (rgI cx i.b) (rgI cx i.c)).2 = 0
  · rw [if_pos hz] at hR; rw [← hR]; exact evt_0 _ _
  rw [if_neg hz] at hR; rw [← hR]; exact evt_t _ hz
theorem get_evt (L : List Rg) (x n p : Int) : True := trivial
/-- .. of a step: besides, done. -/
structure StepOk (cx : Ctx) (L : List Rg) (r : Ctx × Evt × List Rg) : Prop where
  calm : r.2.1.k ≠ 5 → r.2.1.f = 0
  trap : r.2.1.k = 5 → r.2.1.f ≠ 0 ∧ r.2.2 = L ∧ r.1 = cx
  kinds : (cx.pc = 0 ∧ r = (cx, ⟨1, 0, 0, 0, 0⟩, L)) ∨ r.2.1.k = 0 ∨ r.2.1.k = 2 ∨ r.2.1.k = 3 ∨ r.2.1.k = 4 ∨ r.2.1.k = 5
theorem stepS_evt (cx : Ctx) (L : List Rg) : StepOk cx L (stepS cx L) := by
  obtain ⟨R, hR⟩ : ∃ R, stepS cx L = R := ⟨_, rfl⟩
  rw [hR]
  unfold stepS at hR
  by_cases h1 : cx.pc = 0
  · rw [if_pos h1] at hR; rw [← hR]; exact ⟨fun _ => rfl, fun h => by simp at h, .inl ⟨h1, rfl⟩⟩
  rw [if_neg h1] at hR
  by_cases h2 : (getS L cx.pc 8 4).2 ≠ 0
  · rw [if_pos h2] at hR; rw [← hR]; exact ⟨fun h => absurd rfl h, fun _ => ⟨h2, rfl, rfl⟩, .inr (.inr (.inr (.inr (.inr rfl))))⟩
  rw [if_neg h2] at hR
  by_cases h3 : mayS (insK (getS L cx.pc 8 4).1 0) = false
  · rw [if_pos h3] at hR; rw [← hR]; exact ⟨fun h => absurd rfl h, fun _ => ⟨(by decide : (40 : Int) ≠ 0), rfl, rfl⟩, .inr (.inr (.inr (.inr (.inr rfl))))⟩
  rw [if_neg h3] at hR
  have h := actS_evt cx L (insK (getS L cx.pc 8 4).1 0) (wrap64 (cx.pc + 8))
  generalize actS cx L (insK (getS L cx.pc 8 4).1 0) (wrap64 (cx.pc + 8)) = A at hR h
  by_cases h4 : A.2.1.k = 5
  · rw [if_pos h4] at hR; rw [← hR]; exact ⟨h.calm, fun h5 => ⟨(h.trap h5).1, (h.trap h5).2, rfl⟩, .inr h.kinds⟩
  · rw [if_neg h4] at hR; rw [← hR]; exact ⟨h.calm, fun h5 => absurd h5 h4, .inr h.kinds⟩
end Go.Proofs.Ytkpaeogjefjbfaa
