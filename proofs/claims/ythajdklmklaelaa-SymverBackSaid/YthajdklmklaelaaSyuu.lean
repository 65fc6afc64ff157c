/-
  Layer 7: what Right computes (as a whole; the document's).
  Conditions: none. (My own text.)
-/
import Derived.Test.YthajdklmklaelaaSyu
namespace Go.Proofs.Ythajdklmklaelaa
open Go.RowKit
set_option linter.unusedVariables false
set_option linter.unusedSimpArgs false

theorem right_any (n v : ByteArray) (o wk d : Bool) (k i a s : Int) (hn : n.size ≤ maxLen) (hv : v.size ≤ maxLen) (w : World) :
    Calls Try.prog 20 #[.agg #[.string n, .string v, .bool o, .int .i64 k, .bool wk, .int .i64 i, .bool d, .int .i64 a, .int .i64 s]] w fun e w' => e = .returned (.int .i64 (if rightS n v o d k i a s = true then 0 else 70)) ∧ Below w.heap.size w w' := by
  cases bn : nameS n
  ·
    cases d
    ·
      have e : rightS n v o false k i a s = false := by simp [rightS, rightB, bn]
      rw [e]
      exact right_f0_false n v wk o k i a s hn hv bn w
    ·
      have e : rightS n v o true k i a s = false := by simp [rightS, rightB, bn]
      rw [e]
      exact right_f0_true n v wk o k i a s hn hv bn w
  · cases be : v.toList.isEmpty
    · cases bv : nameS v
      ·
        cases d
        ·
          have e : rightS n v o false k i a s = false := by simp [rightS, rightB, bn, be, bv]
          rw [e]
          exact right_f1_false n v wk o k i a s hn hv bn be bv w
        ·
          have e : rightS n v o true k i a s = false := by simp [rightS, rightB, bn, be, bv]
          rw [e]
          exact right_f1_true n v wk o k i a s hn hv bn be bv w
      ·
        by_cases k1 : (1 : Int) ≤ k
        case neg =>
          cases d
          ·
            have e : rightS n v o false k i a s = false := by simp [rightS, rightB, bn, be, bv, k1]
            rw [e]
            exact right_k1_n_false n v wk o k i a s hn hv bn be bv k1 w
          ·
            have e : rightS n v o true k i a s = false := by simp [rightS, rightB, bn, be, bv, k1]
            rw [e]
            exact right_k1_n_true n v wk o k i a s hn hv bn be bv k1 w
        by_cases k3 : (k : Int) ≤ 3
        case neg =>
          cases d
          ·
            have e : rightS n v o false k i a s = false := by simp [rightS, rightB, bn, be, bv, k1, k3]
            rw [e]
            exact right_k3_n_false n v wk o k i a s hn hv bn be bv k1 k3 w
          ·
            have e : rightS n v o true k i a s = false := by simp [rightS, rightB, bn, be, bv, k1, k3]
            rw [e]
            exact right_k3_n_true n v wk o k i a s hn hv bn be bv k1 k3 w
        by_cases i0 : (0 : Int) ≤ i
        case neg =>
          cases d
          ·
            have e : rightS n v o false k i a s = false := by simp [rightS, rightB, bn, be, bv, k1, k3, i0]
            rw [e]
            exact right_i0_n_false n v wk o k i a s hn hv bn be bv k1 k3 i0 w
          ·
            have e : rightS n v o true k i a s = false := by simp [rightS, rightB, bn, be, bv, k1, k3, i0]
            rw [e]
            exact right_i0_n_true n v wk o k i a s hn hv bn be bv k1 k3 i0 w
        by_cases i2 : (i : Int) ≤ 2
        case neg =>
          cases d
          ·
            have e : rightS n v o false k i a s = false := by simp [rightS, rightB, bn, be, bv, k1, k3, i0, i2]
            rw [e]
            exact right_i2_n_false n v wk o k i a s hn hv bn be bv k1 k3 i0 i2 w
          ·
            have e : rightS n v o true k i a s = false := by simp [rightS, rightB, bn, be, bv, k1, k3, i0, i2]
            rw [e]
            exact right_i2_n_true n v wk o k i a s hn hv bn be bv k1 k3 i0 i2 w
        by_cases a0 : (0 : Int) ≤ a
        case neg =>
          cases d
          ·
            have e : rightS n v o false k i a s = false := by simp [rightS, rightB, bn, be, bv, k1, k3, i0, i2, a0]
            rw [e]
            exact right_a0_n_false n v wk o k i a s hn hv bn be bv k1 k3 i0 i2 a0 w
          ·
            have e : rightS n v o true k i a s = false := by simp [rightS, rightB, bn, be, bv, k1, k3, i0, i2, a0]
            rw [e]
            exact right_a0_n_true n v wk o k i a s hn hv bn be bv k1 k3 i0 i2 a0 w
        by_cases s0 : (0 : Int) ≤ s
        case neg =>
          cases d
          ·
            have e : rightS n v o false k i a s = false := by simp [rightS, rightB, bn, be, bv, k1, k3, i0, i2, a0, s0]
            rw [e]
            exact right_s0_n_false n v wk o k i a s hn hv bn be bv k1 k3 i0 i2 a0 s0 w
          ·
            have e : rightS n v o true k i a s = false := by simp [rightS, rightB, bn, be, bv, k1, k3, i0, i2, a0, s0]
            rw [e]
            exact right_s0_n_true n v wk o k i a s hn hv bn be bv k1 k3 i0 i2 a0 s0 w
        cases d
        · cases o
          · cases zi : (i == (0 : Int))
            ·
              have e : rightS n v false false k i a s = false := by simp [rightS, rightB, bn, be, bv, k1, k3, i0, i2, a0, s0, zi]
              rw [e]
              exact right_df_i_n n v wk k i a s hn hv bn be bv k1 k3 i0 i2 a0 s0 zi w
            · cases za : (a == (0 : Int))
              ·
                have e : rightS n v false false k i a s = false := by simp [rightS, rightB, bn, be, bv, k1, k3, i0, i2, a0, s0, zi, za]
                rw [e]
                exact right_df_a_n n v wk k i a s hn hv bn be bv k1 k3 i0 i2 a0 s0 zi za w
              · cases zs : (s == (0 : Int))
                ·
                  have e : rightS n v false false k i a s = false := by simp [rightS, rightB, bn, be, bv, k1, k3, i0, i2, a0, s0, zi, za, zs]
                  rw [e]
                  exact right_df_s_n n v wk k i a s hn hv bn be bv k1 k3 i0 i2 a0 s0 zi za zs w
                ·
                  have e : rightS n v false false k i a s = true := by simp [rightS, rightB, bn, be, bv, k1, k3, i0, i2, a0, s0, zi, za, zs]
                  rw [e]
                  exact right_df_ok_n n v wk k i a s hn hv bn be bv k1 k3 i0 i2 a0 s0 zi za zs w
          ·
            have e : rightS n v true false k i a s = false := by simp [rightS, rightB, bn, be, bv, k1, k3, i0, i2, a0, s0]
            rw [e]
            exact right_df_ot_n n v wk k i a s hn hv bn be bv k1 k3 i0 i2 a0 s0 w
        · cases o
          ·
            have e : rightS n v false true k i a s = true := by simp [rightS, rightB, bn, be, bv, k1, k3, i0, i2, a0, s0]
            rw [e]
            exact right_dt_of_n n v wk k i a s hn hv bn be bv k1 k3 i0 i2 a0 s0 w
          ·
            have e : rightS n v true true k i a s = true := by simp [rightS, rightB, bn, be, bv, k1, k3, i0, i2, a0, s0]
            rw [e]
            exact right_dt_ot_n n v wk k i a s hn hv bn be bv k1 k3 i0 i2 a0 s0 w
    ·
      by_cases k1 : (1 : Int) ≤ k
      case neg =>
        cases d
        ·
          have e : rightS n v o false k i a s = false := by simp [rightS, rightB, bn, be, k1]
          rw [e]
          exact right_k1_e_false n v wk o k i a s hn hv bn be k1 w
        ·
          have e : rightS n v o true k i a s = false := by simp [rightS, rightB, bn, be, k1]
          rw [e]
          exact right_k1_e_true n v wk o k i a s hn hv bn be k1 w
      by_cases k3 : (k : Int) ≤ 3
      case neg =>
        cases d
        ·
          have e : rightS n v o false k i a s = false := by simp [rightS, rightB, bn, be, k1, k3]
          rw [e]
          exact right_k3_e_false n v wk o k i a s hn hv bn be k1 k3 w
        ·
          have e : rightS n v o true k i a s = false := by simp [rightS, rightB, bn, be, k1, k3]
          rw [e]
          exact right_k3_e_true n v wk o k i a s hn hv bn be k1 k3 w
      by_cases i0 : (0 : Int) ≤ i
      case neg =>
        cases d
        ·
          have e : rightS n v o false k i a s = false := by simp [rightS, rightB, bn, be, k1, k3, i0]
          rw [e]
          exact right_i0_e_false n v wk o k i a s hn hv bn be k1 k3 i0 w
        ·
          have e : rightS n v o true k i a s = false := by simp [rightS, rightB, bn, be, k1, k3, i0]
          rw [e]
          exact right_i0_e_true n v wk o k i a s hn hv bn be k1 k3 i0 w
      by_cases i2 : (i : Int) ≤ 2
      case neg =>
        cases d
        ·
          have e : rightS n v o false k i a s = false := by simp [rightS, rightB, bn, be, k1, k3, i0, i2]
          rw [e]
          exact right_i2_e_false n v wk o k i a s hn hv bn be k1 k3 i0 i2 w
        ·
          have e : rightS n v o true k i a s = false := by simp [rightS, rightB, bn, be, k1, k3, i0, i2]
          rw [e]
          exact right_i2_e_true n v wk o k i a s hn hv bn be k1 k3 i0 i2 w
      by_cases a0 : (0 : Int) ≤ a
      case neg =>
        cases d
        ·
          have e : rightS n v o false k i a s = false := by simp [rightS, rightB, bn, be, k1, k3, i0, i2, a0]
          rw [e]
          exact right_a0_e_false n v wk o k i a s hn hv bn be k1 k3 i0 i2 a0 w
        ·
          have e : rightS n v o true k i a s = false := by simp [rightS, rightB, bn, be, k1, k3, i0, i2, a0]
          rw [e]
          exact right_a0_e_true n v wk o k i a s hn hv bn be k1 k3 i0 i2 a0 w
      by_cases s0 : (0 : Int) ≤ s
      case neg =>
        cases d
        ·
          have e : rightS n v o false k i a s = false := by simp [rightS, rightB, bn, be, k1, k3, i0, i2, a0, s0]
          rw [e]
          exact right_s0_e_false n v wk o k i a s hn hv bn be k1 k3 i0 i2 a0 s0 w
        ·
          have e : rightS n v o true k i a s = false := by simp [rightS, rightB, bn, be, k1, k3, i0, i2, a0, s0]
          rw [e]
          exact right_s0_e_true n v wk o k i a s hn hv bn be k1 k3 i0 i2 a0 s0 w
      cases d
      · cases o
        · cases zi : (i == (0 : Int))
          ·
            have e : rightS n v false false k i a s = false := by simp [rightS, rightB, bn, be, k1, k3, i0, i2, a0, s0, zi]
            rw [e]
            exact right_df_i_e n v wk k i a s hn hv bn be k1 k3 i0 i2 a0 s0 zi w
          · cases za : (a == (0 : Int))
            ·
              have e : rightS n v false false k i a s = false := by simp [rightS, rightB, bn, be, k1, k3, i0, i2, a0, s0, zi, za]
              rw [e]
              exact right_df_a_e n v wk k i a s hn hv bn be k1 k3 i0 i2 a0 s0 zi za w
            · cases zs : (s == (0 : Int))
              ·
                have e : rightS n v false false k i a s = false := by simp [rightS, rightB, bn, be, k1, k3, i0, i2, a0, s0, zi, za, zs]
                rw [e]
                exact right_df_s_e n v wk k i a s hn hv bn be k1 k3 i0 i2 a0 s0 zi za zs w
              ·
                have e : rightS n v false false k i a s = true := by simp [rightS, rightB, bn, be, k1, k3, i0, i2, a0, s0, zi, za, zs]
                rw [e]
                exact right_df_ok_e n v wk k i a s hn hv bn be k1 k3 i0 i2 a0 s0 zi za zs w
        ·
          have e : rightS n v true false k i a s = false := by simp [rightS, rightB, bn, be, k1, k3, i0, i2, a0, s0]
          rw [e]
          exact right_df_ot_e n v wk k i a s hn hv bn be k1 k3 i0 i2 a0 s0 w
      · cases o
        ·
          have e : rightS n v false true k i a s = true := by simp [rightS, rightB, bn, be, k1, k3, i0, i2, a0, s0]
          rw [e]
          exact right_dt_of_e n v wk k i a s hn hv bn be k1 k3 i0 i2 a0 s0 w
        ·
          have e : rightS n v true true k i a s = false := by simp [rightS, rightB, bn, be, k1, k3, i0, i2, a0, s0]
          rw [e]
          exact right_dt_ot_e n v wk k i a s hn hv bn be k1 k3 i0 i2 a0 s0 w

-- PATHS
end Go.Proofs.Ythajdklmklaelaa
