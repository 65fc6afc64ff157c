/-
  Layer 7: symver.Parse as a whole.
  Conditions: none. (My own text.)
-/
import Derived.Test.YthajdklmklaelaaSyp
namespace Go.Proofs.Ythajdklmklaelaa
open Go.RowKit
set_option linter.unusedVariables false
set_option linter.unusedSimpArgs false

theorem parse_any (s : ByteArray) (hs : s.size ≤ maxLen) (d : Bool) (w : World) :
    Calls Try.prog 11 #[.string s, .bool d] w fun e w' => e = .returned (.tuple #[resV d (parseS s d), .int .i64 (resE (parseS s d))]) ∧ Below w.heap.size w w' := by
  by_cases h : atP s < s.size
  · cases h0 : at0 (s.extract (atP s + 1) s.size)
    · cases hb : nameS (s.extract 0 (atP s))
      · have e : parseS s d = none := by simp [parseS, h, h0, hb]
        rw [e]
        cases d
        · exact parse_one_no_false s _ _ hs h rfl rfl h0 hb w
        · exact parse_one_no_true s _ _ hs h rfl rfl h0 hb w
      · cases hc : nameS (s.extract (atP s + 1) s.size)
        · have e : parseS s d = none := by simp [parseS, h, h0, hb, hc]
          rw [e]
          cases d
          · exact parse_one_bad_false s _ _ hs h rfl rfl h0 hb hc w
          · exact parse_one_bad_true s _ _ hs h rfl rfl h0 hb hc w
        · have e : parseS s d = some (s.extract 0 (atP s), s.extract (atP s + 1) s.size, d) := by simp [parseS, h, h0, hb, hc]
          rw [e]
          cases d
          · exact parse_one_ok_false s _ _ hs h rfl rfl h0 hb hc w
          · exact parse_one_ok_true s _ _ hs h rfl rfl h0 hb hc w
    · cases d
      · have e : parseS s false = none := by simp [parseS, h, h0]
        rw [e]
        exact parse_two_ref s _ _ hs h rfl rfl h0 w
      · cases hb : nameS (s.extract 0 (atP s))
        · have e : parseS s true = none := by simp [parseS, h, h0, hb]
          rw [e]
          exact parse_two_no s _ _ hs h rfl rfl h0 hb w
        · cases hc : nameS ((s.extract (atP s + 1) s.size).extract 1 (s.extract (atP s + 1) s.size).size)
          · have e : parseS s true = none := by simp only [parseS, if_pos h, if_pos h0, hb, hc]; rfl
            rw [e]
            exact parse_two_bad s _ _ hs h rfl rfl h0 hb hc w
          · have e : parseS s true = some (s.extract 0 (atP s), (s.extract (atP s + 1) s.size).extract 1 (s.extract (atP s + 1) s.size).size, false) := by simp only [parseS, if_pos h, if_pos h0, hb, hc]; rfl
            rw [e]
            exact parse_two_ok s _ _ hs h rfl rfl h0 hb hc w
  · cases hb : nameS s
    · have e : parseS s d = none := by simp [parseS, h, hb]
      rw [e]
      exact parse_miss s hs d h false hb w
    · have e : parseS s d = some (s, ⟨#[]⟩, false) := by simp [parseS, h, hb]
      rw [e]
      exact parse_miss s hs d h true hb w
end Go.Proofs.Ythajdklmklaelaa
