/-
  Layer 6, plain: a run in two parts.
  Conditions: none. (My own text.)
-/
import Derived.Test.YtkpaeogjefjbfaaCpt
namespace Go.Proofs.Ytkpaeogjefjbfaa
open Go.RowKit Spm
set_option linter.unusedVariables false
set_option linter.unusedSimpArgs false

theorem run_spent : ∀ (p : Nat) (cx : Ctx) (L : List Rg) (n : Int), (runG cx L n p).2.1.k = 6 → ∃ cx' L', runG cx L n p = (cx', ⟨6, 0, 0, 0, 0⟩, n + p, L') ∧ ∀ q, runG cx L n (p + q) = runG cx' L' (n + p) q
  | 0, cx, L, n, h => by
    unfold runG at h
    simp only at h
    have hp : ¬ cx.pc = 0 := fun e => by rw [if_pos e] at h; exact absurd h (by decide)
    refine ⟨cx, L, ?_, fun q => by simp⟩
    unfold runG
    rw [if_neg hp]
    simp
  | p + 1, cx, L, n, h => by
    have hs := stepS_evt cx L
    have hR : ∀ q, runG cx L n (p + 1 + q) = if (stepS cx L).2.1.k = 1 ∨ (stepS cx L).2.1.k = 5 then ((stepS cx L).1, (stepS cx L).2.1, n, (stepS cx L).2.2) else if (stepS cx L).2.1.k = 0 then runG (stepS cx L).1 (stepS cx L).2.2 (n + 1) (p + q) else ((stepS cx L).1, (stepS cx L).2.1, n + 1, (stepS cx L).2.2) := fun q => by
      rw [show p + 1 + q = (p + q) + 1 by omega]
      rfl
    have h0 := hR 0
    simp only [Nat.add_zero] at h0
    rw [h0] at h ⊢
    by_cases h1 : (stepS cx L).2.1.k = 1 ∨ (stepS cx L).2.1.k = 5
    · rw [if_pos h1] at h; simp only at h; omega
    · rw [if_neg h1] at h ⊢
      by_cases hz : (stepS cx L).2.1.k = 0
      · rw [if_pos hz] at h ⊢
        obtain ⟨cx', L', e1, e2⟩ := run_spent p _ _ _ h
        refine ⟨cx', L', by rw [e1]; congr 3; simp; omega, fun q => ?_⟩
        rw [hR q, if_neg h1, if_pos hz, e2 q]
        congr 1
        simp; omega
      · rw [if_neg hz] at h
        simp only at h
        have := hs.kinds
        rcases this with ⟨_, e⟩ | e
        · rw [e] at h; simp at h
        · omega
theorem run_shift : ∀ (q : Nat) (cx : Ctx) (L : List Rg) (n m : Int), runG cx L (n + m) q = ((runG cx L m q).1, (runG cx L m q).2.1, n + (runG cx L m q).2.2.1, (runG cx L m q).2.2.2)
  | 0, cx, L, n, m => rfl
  | q + 1, cx, L, n, m => by
    unfold runG
    by_cases h1 : (stepS cx L).2.1.k = 1 ∨ (stepS cx L).2.1.k = 5
    · rw [if_pos h1, if_pos h1]
    · rw [if_neg h1, if_neg h1]
      by_cases hz : (stepS cx L).2.1.k = 0
      · rw [if_pos hz, if_pos hz, show n + m + 1 = n + (m + 1) by omega]; exact run_shift q _ _ n (m + 1)
      · rw [if_neg hz, if_neg hz]; simp; omega
theorem run_bnd : ∀ (q : Nat) (cx : Ctx) (L : List Rg) (n : Int), n ≤ (runG cx L n q).2.2.1 ∧ (runG cx L n q).2.2.1 ≤ n + q
  | 0, cx, L, n => by unfold runG; simp
  | q + 1, cx, L, n => by
    unfold runG
    by_cases h1 : (stepS cx L).2.1.k = 1 ∨ (stepS cx L).2.1.k = 5
    · rw [if_pos h1]; simp only; omega
    · rw [if_neg h1]
      by_cases hz : (stepS cx L).2.1.k = 0
      · rw [if_pos hz]
        have := run_bnd q (stepS cx L).1 (stepS cx L).2.2 (n + 1)
        omega
      · rw [if_neg hz]; simp only; omega
theorem run_ok : ∀ (q : Nat) (cx : Ctx) (L : List Rg) (n : Int), CtxOk cx → Ok L → CtxOk (runG cx L n q).1 ∧ Ok (runG cx L n q).2.2.2
  | 0, cx, L, n, hc, hL => by unfold runG; exact ⟨hc, hL⟩
  | q + 1, cx, L, n, hc, hL => by
    have hs := stepS_ok hc hL
    unfold runG
    by_cases h1 : (stepS cx L).2.1.k = 1 ∨ (stepS cx L).2.1.k = 5
    · rw [if_pos h1]; exact hs
    · rw [if_neg h1]
      by_cases hz : (stepS cx L).2.1.k = 0
      · rw [if_pos hz]; exact run_ok q _ _ _ hs.1 hs.2
      · rw [if_neg hz]; exact hs
/-- A run that is spent, and another one behind it. -/
theorem run_parts {cx : Ctx} {L : List Rg} {p q : Nat} {D : Ctx} {E : Evt} {k : Int} {L1 : List Rg} (h : runS cx L p = (D, E, k, L1)) (he : E.k = 6) {D2 : Ctx} {E2 : Evt} {k2 : Int} {L2 : List Rg} (h2 : runS D L1 q = (D2, E2, k2, L2)) :
    k = p ∧ 0 ≤ k2 ∧ k2 ≤ q ∧ runS cx L ((p + q : Nat) : Int) = (D2, E2, k + k2, L2) := by
  unfold runS at h h2 ⊢
  rw [Int.toNat_natCast] at h h2 ⊢
  have hk : (runG cx L 0 p).2.1.k = 6 := by rw [h]; exact he
  obtain ⟨cx', L', e1, e2⟩ := run_spent p cx L 0 hk
  rw [h] at e1
  simp only [Prod.mk.injEq] at e1
  obtain ⟨rfl, rfl, rfl, rfl⟩ := e1
  have hb := run_bnd q D L1 0
  rw [h2] at hb
  simp only at hb
  refine ⟨by omega, by omega, by omega, ?_⟩
  rw [e2 q]
  have hs := run_shift q D L1 (0 + p) 0
  rw [Int.add_zero] at hs
  rw [hs, h2]
end Go.Proofs.Ytkpaeogjefjbfaa
