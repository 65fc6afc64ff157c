/-
  Layer 7: clevisref07.Parse as a whole: what symver.Parse computes.
  Conditions: none. (My own text.)
-/
import Derived.Test.YthajdklmklaelaaSyz
namespace Go.Proofs.Ythajdklmklaelaa
open Go.RowKit
set_option linter.unusedVariables false
set_option linter.unusedSimpArgs false

theorem refParse_any (s : ByteArray) (hs : s.size ≤ maxLen) (d : Bool) (w : World) :
    Calls Try.prog 12 #[.string s, .bool d] w fun e w' => e = .returned (.tuple #[resV d (parseS s d), .int .i64 (resE (parseS s d))]) ∧ Below w.heap.size w w' := by
  by_cases h : atP s < s.size
  · rcases Nat.eq_zero_or_pos (s.extract (atP s + 1) s.size).size with hz | hz
    · have e : parseS s d = none := by simp [parseS, h, at0_empty _ hz, nameS_empty _ hz]
      rw [e]
      exact refParse_end s _ _ hs d h rfl rfl hz w
    cases h0 : at0 (s.extract (atP s + 1) s.size)
    · cases hc : nameS (s.extract (atP s + 1) s.size)
      · have e : parseS s d = none := by simp [parseS, h, h0, hc]
        rw [e]
        exact refParse_one_bad s _ _ hs d h rfl rfl hz h0 hc w
      · cases hb : nameS (s.extract 0 (atP s))
        · have e : parseS s d = none := by simp [parseS, h, h0, hb]
          rw [e]
          exact refParse_one_no s _ _ hs d h rfl rfl hz h0 hb hc w
        · have e : parseS s d = some (s.extract 0 (atP s), s.extract (atP s + 1) s.size, d) := by simp [parseS, h, h0, hb, hc]
          rw [e]
          exact refParse_one_ok s _ _ hs d h rfl rfl hz h0 hb hc w
    · cases d
      · have e : parseS s false = none := by simp [parseS, h, h0]
        rw [e]
        exact refParse_two_ref s _ _ hs h rfl rfl hz h0 w
      · cases hc : nameS ((s.extract (atP s + 1) s.size).extract 1 (s.extract (atP s + 1) s.size).size)
        · have e : parseS s true = none := by simp only [parseS, if_pos h, if_pos h0, hc, Bool.false_eq_true, and_false, if_false]; rfl
          rw [e]
          exact refParse_two_bad s _ _ hs h rfl rfl hz h0 hc w
        · cases hb : nameS (s.extract 0 (atP s))
          · have e : parseS s true = none := by simp [parseS, h, h0, hb]
            rw [e]
            exact refParse_two_no s _ _ hs h rfl rfl hz h0 hb hc w
          · have e : parseS s true = some (s.extract 0 (atP s), (s.extract (atP s + 1) s.size).extract 1 (s.extract (atP s + 1) s.size).size, false) := by simp only [parseS, if_pos h, if_pos h0, hb, hc]; rfl
            rw [e]
            exact refParse_two_ok s _ _ hs h rfl rfl hz h0 hb hc w
  · have hx : s.extract 0 (atP s) = s := by
      have := atP_le s
      rw [show atP s = s.size by omega]
      exact extract_all s
    cases hb : nameS s
    · have e : parseS s d = none := by simp [parseS, h, hb]
      rw [e]
      exact refParse_miss_no s s s hs d h hx hb w
    · have e : parseS s d = some (s, ⟨#[]⟩, false) := by simp [parseS, h, hb]
      rw [e]
      exact refParse_miss_ok s s s hs d h hx hb w
end Go.Proofs.Ythajdklmklaelaa
