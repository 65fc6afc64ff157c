/-
  Layer 7: what Right computes (the document's, as a whole).
  Conditions: none. (My own text.)
-/
import Derived.Test.YthajdklmklaelaaSyur0
import Derived.Test.YthajdklmklaelaaSyur1
import Derived.Test.YthajdklmklaelaaSyur2
import Derived.Test.YthajdklmklaelaaSyur3
namespace Go.Proofs.Ythajdklmklaelaa
open Go.RowKit
set_option linter.unusedVariables false
set_option linter.unusedSimpArgs false

theorem refRight_any (n v : ByteArray) (o wk d : Bool) (k i a s : Int) (hn : n.size ≤ maxLen) (hv : v.size ≤ maxLen) (w : World) :
    Calls Try.prog 23 #[.agg #[.string n, .string v, .bool o, .int .i64 k, .bool wk, .int .i64 i, .bool d, .int .i64 a, .int .i64 s]] w fun e w' => e = .returned (.bool (rightS n v o d k i a s)) ∧ Below w.heap.size w w' := by
  cases bn : nameS n
  ·
    have e : rightS n v o d k i a s = false := by simp [rightS, rightB, bn]
    rw [e]
    exact ref_f0 n v wk o d k i a s hn hv bn w
  · cases be : v.toList.isEmpty
    · cases bv : nameS v
      ·
        have e : rightS n v o d k i a s = false := by simp [rightS, rightB, bn, be, bv]
        rw [e]
        exact ref_f1 n v wk o d k i a s hn hv bn be bv w
      ·
        by_cases a0 : (0 : Int) ≤ a
        case neg =>
          have e : rightS n v o d k i a s = false := by simp [rightS, rightB, bn, be, bv, a0]
          rw [e]
          exact ref_a_n n v wk o d k i a s hn hv bn be bv a0 w
        by_cases s0 : (0 : Int) ≤ s
        case neg =>
          have e : rightS n v o d k i a s = false := by simp [rightS, rightB, bn, be, bv, a0, s0]
          rw [e]
          exact ref_s_n n v wk o d k i a s hn hv bn be bv a0 s0 w
        by_cases hk : k = 1 ∨ k = 2 ∨ k = 3
        case neg =>
          have e : rightS n v o d k i a s = false := by
            have : ¬ ((1 : Int) ≤ k ∧ k ≤ 3) := by omega
            by_cases h1 : (1 : Int) ≤ k
            · simp [rightS, rightB, show ¬ k ≤ 3 by omega]
            · simp [rightS, rightB, h1]
          rw [e]
          exact ref_k_n n v wk o d k i a s hn hv bn be bv a0 s0 (by simp; omega) (by simp; omega) (by simp; omega) w
        by_cases hi : i = 0 ∨ i = 1 ∨ i = 2
        case neg =>
          have e : rightS n v o d k i a s = false := by
            have : ¬ ((0 : Int) ≤ i ∧ i ≤ 2) := by omega
            by_cases h1 : (0 : Int) ≤ i
            · simp [rightS, rightB, show ¬ i ≤ 2 by omega]
            · simp [rightS, rightB, h1]
          rw [e]
          rcases hk with rfl | rfl | rfl
          · exact ref_i_n_1 n v wk o d i a s hn hv bn be bv a0 s0 (by simp; omega) (by simp; omega) (by simp; omega) w
          · exact ref_i_n_2 n v wk o d i a s hn hv bn be bv a0 s0 (by simp; omega) (by simp; omega) (by simp; omega) w
          · exact ref_i_n_3 n v wk o d i a s hn hv bn be bv a0 s0 (by simp; omega) (by simp; omega) (by simp; omega) w
        rcases hk with rfl | rfl | rfl <;> rcases hi with rfl | rfl | rfl
        · cases o
          · cases d
            · cases za : (a == (0 : Int))
              ·
                have e : rightS n v false false 1 0 a s = false := by simp [rightS, rightB, bn, be, bv, a0, s0, za]
                rw [e]
                exact ref_za_n_1_0 n v wk a s hn hv bn be bv a0 s0 za w
              · cases zs : (s == (0 : Int))
                ·
                  have e : rightS n v false false 1 0 a s = false := by simp [rightS, rightB, bn, be, bv, a0, s0, za, zs]
                  rw [e]
                  exact ref_zs_n_1_0 n v wk a s hn hv bn be bv a0 s0 za zs w
                ·
                  have e : rightS n v false false 1 0 a s = true := by simp [rightS, rightB, bn, be, bv, a0, s0, za, zs]
                  rw [e]
                  exact ref_ok_n_1_0 n v wk a s hn hv bn be bv a0 s0 za zs w
            ·
              have e : rightS n v false true 1 0 a s = true := by simp [rightS, rightB, bn, be, bv, a0, s0]
              rw [e]
              exact ref_d_false_n_1_0 n v wk a s hn hv bn be bv a0 s0 w
          · cases d
            ·
              have e : rightS n v true false 1 0 a s = false := by simp [rightS, rightB, bn, be, bv, a0, s0]
              rw [e]
              exact ref_o_n_1_0 n v wk a s hn hv bn be bv a0 s0 w
            ·
              have e : rightS n v true true 1 0 a s = true := by simp [rightS, rightB, bn, be, bv, a0, s0]
              rw [e]
              exact ref_d_true_n_1_0 n v wk a s hn hv bn be bv a0 s0 w
        · cases o
          · cases d
            ·
              have e : rightS n v false false 1 1 a s = false := by simp [rightS, rightB, bn, be, bv, a0, s0]
              rw [e]
              exact ref_zi_n_1_1 n v wk a s hn hv bn be bv a0 s0 w
            ·
              have e : rightS n v false true 1 1 a s = true := by simp [rightS, rightB, bn, be, bv, a0, s0]
              rw [e]
              exact ref_d_false_n_1_1 n v wk a s hn hv bn be bv a0 s0 w
          · cases d
            ·
              have e : rightS n v true false 1 1 a s = false := by simp [rightS, rightB, bn, be, bv, a0, s0]
              rw [e]
              exact ref_o_n_1_1 n v wk a s hn hv bn be bv a0 s0 w
            ·
              have e : rightS n v true true 1 1 a s = true := by simp [rightS, rightB, bn, be, bv, a0, s0]
              rw [e]
              exact ref_d_true_n_1_1 n v wk a s hn hv bn be bv a0 s0 w
        · cases o
          · cases d
            ·
              have e : rightS n v false false 1 2 a s = false := by simp [rightS, rightB, bn, be, bv, a0, s0]
              rw [e]
              exact ref_zi_n_1_2 n v wk a s hn hv bn be bv a0 s0 w
            ·
              have e : rightS n v false true 1 2 a s = true := by simp [rightS, rightB, bn, be, bv, a0, s0]
              rw [e]
              exact ref_d_false_n_1_2 n v wk a s hn hv bn be bv a0 s0 w
          · cases d
            ·
              have e : rightS n v true false 1 2 a s = false := by simp [rightS, rightB, bn, be, bv, a0, s0]
              rw [e]
              exact ref_o_n_1_2 n v wk a s hn hv bn be bv a0 s0 w
            ·
              have e : rightS n v true true 1 2 a s = true := by simp [rightS, rightB, bn, be, bv, a0, s0]
              rw [e]
              exact ref_d_true_n_1_2 n v wk a s hn hv bn be bv a0 s0 w
        · cases o
          · cases d
            · cases za : (a == (0 : Int))
              ·
                have e : rightS n v false false 2 0 a s = false := by simp [rightS, rightB, bn, be, bv, a0, s0, za]
                rw [e]
                exact ref_za_n_2_0 n v wk a s hn hv bn be bv a0 s0 za w
              · cases zs : (s == (0 : Int))
                ·
                  have e : rightS n v false false 2 0 a s = false := by simp [rightS, rightB, bn, be, bv, a0, s0, za, zs]
                  rw [e]
                  exact ref_zs_n_2_0 n v wk a s hn hv bn be bv a0 s0 za zs w
                ·
                  have e : rightS n v false false 2 0 a s = true := by simp [rightS, rightB, bn, be, bv, a0, s0, za, zs]
                  rw [e]
                  exact ref_ok_n_2_0 n v wk a s hn hv bn be bv a0 s0 za zs w
            ·
              have e : rightS n v false true 2 0 a s = true := by simp [rightS, rightB, bn, be, bv, a0, s0]
              rw [e]
              exact ref_d_false_n_2_0 n v wk a s hn hv bn be bv a0 s0 w
          · cases d
            ·
              have e : rightS n v true false 2 0 a s = false := by simp [rightS, rightB, bn, be, bv, a0, s0]
              rw [e]
              exact ref_o_n_2_0 n v wk a s hn hv bn be bv a0 s0 w
            ·
              have e : rightS n v true true 2 0 a s = true := by simp [rightS, rightB, bn, be, bv, a0, s0]
              rw [e]
              exact ref_d_true_n_2_0 n v wk a s hn hv bn be bv a0 s0 w
        · cases o
          · cases d
            ·
              have e : rightS n v false false 2 1 a s = false := by simp [rightS, rightB, bn, be, bv, a0, s0]
              rw [e]
              exact ref_zi_n_2_1 n v wk a s hn hv bn be bv a0 s0 w
            ·
              have e : rightS n v false true 2 1 a s = true := by simp [rightS, rightB, bn, be, bv, a0, s0]
              rw [e]
              exact ref_d_false_n_2_1 n v wk a s hn hv bn be bv a0 s0 w
          · cases d
            ·
              have e : rightS n v true false 2 1 a s = false := by simp [rightS, rightB, bn, be, bv, a0, s0]
              rw [e]
              exact ref_o_n_2_1 n v wk a s hn hv bn be bv a0 s0 w
            ·
              have e : rightS n v true true 2 1 a s = true := by simp [rightS, rightB, bn, be, bv, a0, s0]
              rw [e]
              exact ref_d_true_n_2_1 n v wk a s hn hv bn be bv a0 s0 w
        · cases o
          · cases d
            ·
              have e : rightS n v false false 2 2 a s = false := by simp [rightS, rightB, bn, be, bv, a0, s0]
              rw [e]
              exact ref_zi_n_2_2 n v wk a s hn hv bn be bv a0 s0 w
            ·
              have e : rightS n v false true 2 2 a s = true := by simp [rightS, rightB, bn, be, bv, a0, s0]
              rw [e]
              exact ref_d_false_n_2_2 n v wk a s hn hv bn be bv a0 s0 w
          · cases d
            ·
              have e : rightS n v true false 2 2 a s = false := by simp [rightS, rightB, bn, be, bv, a0, s0]
              rw [e]
              exact ref_o_n_2_2 n v wk a s hn hv bn be bv a0 s0 w
            ·
              have e : rightS n v true true 2 2 a s = true := by simp [rightS, rightB, bn, be, bv, a0, s0]
              rw [e]
              exact ref_d_true_n_2_2 n v wk a s hn hv bn be bv a0 s0 w
        · cases o
          · cases d
            · cases za : (a == (0 : Int))
              ·
                have e : rightS n v false false 3 0 a s = false := by simp [rightS, rightB, bn, be, bv, a0, s0, za]
                rw [e]
                exact ref_za_n_3_0 n v wk a s hn hv bn be bv a0 s0 za w
              · cases zs : (s == (0 : Int))
                ·
                  have e : rightS n v false false 3 0 a s = false := by simp [rightS, rightB, bn, be, bv, a0, s0, za, zs]
                  rw [e]
                  exact ref_zs_n_3_0 n v wk a s hn hv bn be bv a0 s0 za zs w
                ·
                  have e : rightS n v false false 3 0 a s = true := by simp [rightS, rightB, bn, be, bv, a0, s0, za, zs]
                  rw [e]
                  exact ref_ok_n_3_0 n v wk a s hn hv bn be bv a0 s0 za zs w
            ·
              have e : rightS n v false true 3 0 a s = true := by simp [rightS, rightB, bn, be, bv, a0, s0]
              rw [e]
              exact ref_d_false_n_3_0 n v wk a s hn hv bn be bv a0 s0 w
          · cases d
            ·
              have e : rightS n v true false 3 0 a s = false := by simp [rightS, rightB, bn, be, bv, a0, s0]
              rw [e]
              exact ref_o_n_3_0 n v wk a s hn hv bn be bv a0 s0 w
            ·
              have e : rightS n v true true 3 0 a s = true := by simp [rightS, rightB, bn, be, bv, a0, s0]
              rw [e]
              exact ref_d_true_n_3_0 n v wk a s hn hv bn be bv a0 s0 w
        · cases o
          · cases d
            ·
              have e : rightS n v false false 3 1 a s = false := by simp [rightS, rightB, bn, be, bv, a0, s0]
              rw [e]
              exact ref_zi_n_3_1 n v wk a s hn hv bn be bv a0 s0 w
            ·
              have e : rightS n v false true 3 1 a s = true := by simp [rightS, rightB, bn, be, bv, a0, s0]
              rw [e]
              exact ref_d_false_n_3_1 n v wk a s hn hv bn be bv a0 s0 w
          · cases d
            ·
              have e : rightS n v true false 3 1 a s = false := by simp [rightS, rightB, bn, be, bv, a0, s0]
              rw [e]
              exact ref_o_n_3_1 n v wk a s hn hv bn be bv a0 s0 w
            ·
              have e : rightS n v true true 3 1 a s = true := by simp [rightS, rightB, bn, be, bv, a0, s0]
              rw [e]
              exact ref_d_true_n_3_1 n v wk a s hn hv bn be bv a0 s0 w
        · cases o
          · cases d
            ·
              have e : rightS n v false false 3 2 a s = false := by simp [rightS, rightB, bn, be, bv, a0, s0]
              rw [e]
              exact ref_zi_n_3_2 n v wk a s hn hv bn be bv a0 s0 w
            ·
              have e : rightS n v false true 3 2 a s = true := by simp [rightS, rightB, bn, be, bv, a0, s0]
              rw [e]
              exact ref_d_false_n_3_2 n v wk a s hn hv bn be bv a0 s0 w
          · cases d
            ·
              have e : rightS n v true false 3 2 a s = false := by simp [rightS, rightB, bn, be, bv, a0, s0]
              rw [e]
              exact ref_o_n_3_2 n v wk a s hn hv bn be bv a0 s0 w
            ·
              have e : rightS n v true true 3 2 a s = true := by simp [rightS, rightB, bn, be, bv, a0, s0]
              rw [e]
              exact ref_d_true_n_3_2 n v wk a s hn hv bn be bv a0 s0 w
    ·
      by_cases a0 : (0 : Int) ≤ a
      case neg =>
        have e : rightS n v o d k i a s = false := by simp [rightS, rightB, bn, be, a0]
        rw [e]
        exact ref_a_e n v wk o d k i a s hn hv bn be a0 w
      by_cases s0 : (0 : Int) ≤ s
      case neg =>
        have e : rightS n v o d k i a s = false := by simp [rightS, rightB, bn, be, a0, s0]
        rw [e]
        exact ref_s_e n v wk o d k i a s hn hv bn be a0 s0 w
      by_cases hk : k = 1 ∨ k = 2 ∨ k = 3
      case neg =>
        have e : rightS n v o d k i a s = false := by
          have : ¬ ((1 : Int) ≤ k ∧ k ≤ 3) := by omega
          by_cases h1 : (1 : Int) ≤ k
          · simp [rightS, rightB, show ¬ k ≤ 3 by omega]
          · simp [rightS, rightB, h1]
        rw [e]
        exact ref_k_e n v wk o d k i a s hn hv bn be a0 s0 (by simp; omega) (by simp; omega) (by simp; omega) w
      by_cases hi : i = 0 ∨ i = 1 ∨ i = 2
      case neg =>
        have e : rightS n v o d k i a s = false := by
          have : ¬ ((0 : Int) ≤ i ∧ i ≤ 2) := by omega
          by_cases h1 : (0 : Int) ≤ i
          · simp [rightS, rightB, show ¬ i ≤ 2 by omega]
          · simp [rightS, rightB, h1]
        rw [e]
        rcases hk with rfl | rfl | rfl
        · exact ref_i_e_1 n v wk o d i a s hn hv bn be a0 s0 (by simp; omega) (by simp; omega) (by simp; omega) w
        · exact ref_i_e_2 n v wk o d i a s hn hv bn be a0 s0 (by simp; omega) (by simp; omega) (by simp; omega) w
        · exact ref_i_e_3 n v wk o d i a s hn hv bn be a0 s0 (by simp; omega) (by simp; omega) (by simp; omega) w
      rcases hk with rfl | rfl | rfl <;> rcases hi with rfl | rfl | rfl
      · cases o
        · cases d
          · cases za : (a == (0 : Int))
            ·
              have e : rightS n v false false 1 0 a s = false := by simp [rightS, rightB, bn, be, a0, s0, za]
              rw [e]
              exact ref_za_e_1_0 n v wk a s hn hv bn be a0 s0 za w
            · cases zs : (s == (0 : Int))
              ·
                have e : rightS n v false false 1 0 a s = false := by simp [rightS, rightB, bn, be, a0, s0, za, zs]
                rw [e]
                exact ref_zs_e_1_0 n v wk a s hn hv bn be a0 s0 za zs w
              ·
                have e : rightS n v false false 1 0 a s = true := by simp [rightS, rightB, bn, be, a0, s0, za, zs]
                rw [e]
                exact ref_ok_e_1_0 n v wk a s hn hv bn be a0 s0 za zs w
          ·
            have e : rightS n v false true 1 0 a s = true := by simp [rightS, rightB, bn, be, a0, s0]
            rw [e]
            exact ref_d_false_e_1_0 n v wk a s hn hv bn be a0 s0 w
        ·
          have e : rightS n v true d 1 0 a s = false := by simp [rightS, rightB, bn, be, a0, s0]
          rw [e]
          exact ref_oe_e_1_0 n v wk d a s hn hv bn be a0 s0 w
      · cases o
        · cases d
          ·
            have e : rightS n v false false 1 1 a s = false := by simp [rightS, rightB, bn, be, a0, s0]
            rw [e]
            exact ref_zi_e_1_1 n v wk a s hn hv bn be a0 s0 w
          ·
            have e : rightS n v false true 1 1 a s = true := by simp [rightS, rightB, bn, be, a0, s0]
            rw [e]
            exact ref_d_false_e_1_1 n v wk a s hn hv bn be a0 s0 w
        ·
          have e : rightS n v true d 1 1 a s = false := by simp [rightS, rightB, bn, be, a0, s0]
          rw [e]
          exact ref_oe_e_1_1 n v wk d a s hn hv bn be a0 s0 w
      · cases o
        · cases d
          ·
            have e : rightS n v false false 1 2 a s = false := by simp [rightS, rightB, bn, be, a0, s0]
            rw [e]
            exact ref_zi_e_1_2 n v wk a s hn hv bn be a0 s0 w
          ·
            have e : rightS n v false true 1 2 a s = true := by simp [rightS, rightB, bn, be, a0, s0]
            rw [e]
            exact ref_d_false_e_1_2 n v wk a s hn hv bn be a0 s0 w
        ·
          have e : rightS n v true d 1 2 a s = false := by simp [rightS, rightB, bn, be, a0, s0]
          rw [e]
          exact ref_oe_e_1_2 n v wk d a s hn hv bn be a0 s0 w
      · cases o
        · cases d
          · cases za : (a == (0 : Int))
            ·
              have e : rightS n v false false 2 0 a s = false := by simp [rightS, rightB, bn, be, a0, s0, za]
              rw [e]
              exact ref_za_e_2_0 n v wk a s hn hv bn be a0 s0 za w
            · cases zs : (s == (0 : Int))
              ·
                have e : rightS n v false false 2 0 a s = false := by simp [rightS, rightB, bn, be, a0, s0, za, zs]
                rw [e]
                exact ref_zs_e_2_0 n v wk a s hn hv bn be a0 s0 za zs w
              ·
                have e : rightS n v false false 2 0 a s = true := by simp [rightS, rightB, bn, be, a0, s0, za, zs]
                rw [e]
                exact ref_ok_e_2_0 n v wk a s hn hv bn be a0 s0 za zs w
          ·
            have e : rightS n v false true 2 0 a s = true := by simp [rightS, rightB, bn, be, a0, s0]
            rw [e]
            exact ref_d_false_e_2_0 n v wk a s hn hv bn be a0 s0 w
        ·
          have e : rightS n v true d 2 0 a s = false := by simp [rightS, rightB, bn, be, a0, s0]
          rw [e]
          exact ref_oe_e_2_0 n v wk d a s hn hv bn be a0 s0 w
      · cases o
        · cases d
          ·
            have e : rightS n v false false 2 1 a s = false := by simp [rightS, rightB, bn, be, a0, s0]
            rw [e]
            exact ref_zi_e_2_1 n v wk a s hn hv bn be a0 s0 w
          ·
            have e : rightS n v false true 2 1 a s = true := by simp [rightS, rightB, bn, be, a0, s0]
            rw [e]
            exact ref_d_false_e_2_1 n v wk a s hn hv bn be a0 s0 w
        ·
          have e : rightS n v true d 2 1 a s = false := by simp [rightS, rightB, bn, be, a0, s0]
          rw [e]
          exact ref_oe_e_2_1 n v wk d a s hn hv bn be a0 s0 w
      · cases o
        · cases d
          ·
            have e : rightS n v false false 2 2 a s = false := by simp [rightS, rightB, bn, be, a0, s0]
            rw [e]
            exact ref_zi_e_2_2 n v wk a s hn hv bn be a0 s0 w
          ·
            have e : rightS n v false true 2 2 a s = true := by simp [rightS, rightB, bn, be, a0, s0]
            rw [e]
            exact ref_d_false_e_2_2 n v wk a s hn hv bn be a0 s0 w
        ·
          have e : rightS n v true d 2 2 a s = false := by simp [rightS, rightB, bn, be, a0, s0]
          rw [e]
          exact ref_oe_e_2_2 n v wk d a s hn hv bn be a0 s0 w
      · cases o
        · cases d
          · cases za : (a == (0 : Int))
            ·
              have e : rightS n v false false 3 0 a s = false := by simp [rightS, rightB, bn, be, a0, s0, za]
              rw [e]
              exact ref_za_e_3_0 n v wk a s hn hv bn be a0 s0 za w
            · cases zs : (s == (0 : Int))
              ·
                have e : rightS n v false false 3 0 a s = false := by simp [rightS, rightB, bn, be, a0, s0, za, zs]
                rw [e]
                exact ref_zs_e_3_0 n v wk a s hn hv bn be a0 s0 za zs w
              ·
                have e : rightS n v false false 3 0 a s = true := by simp [rightS, rightB, bn, be, a0, s0, za, zs]
                rw [e]
                exact ref_ok_e_3_0 n v wk a s hn hv bn be a0 s0 za zs w
          ·
            have e : rightS n v false true 3 0 a s = true := by simp [rightS, rightB, bn, be, a0, s0]
            rw [e]
            exact ref_d_false_e_3_0 n v wk a s hn hv bn be a0 s0 w
        ·
          have e : rightS n v true d 3 0 a s = false := by simp [rightS, rightB, bn, be, a0, s0]
          rw [e]
          exact ref_oe_e_3_0 n v wk d a s hn hv bn be a0 s0 w
      · cases o
        · cases d
          ·
            have e : rightS n v false false 3 1 a s = false := by simp [rightS, rightB, bn, be, a0, s0]
            rw [e]
            exact ref_zi_e_3_1 n v wk a s hn hv bn be a0 s0 w
          ·
            have e : rightS n v false true 3 1 a s = true := by simp [rightS, rightB, bn, be, a0, s0]
            rw [e]
            exact ref_d_false_e_3_1 n v wk a s hn hv bn be a0 s0 w
        ·
          have e : rightS n v true d 3 1 a s = false := by simp [rightS, rightB, bn, be, a0, s0]
          rw [e]
          exact ref_oe_e_3_1 n v wk d a s hn hv bn be a0 s0 w
      · cases o
        · cases d
          ·
            have e : rightS n v false false 3 2 a s = false := by simp [rightS, rightB, bn, be, a0, s0]
            rw [e]
            exact ref_zi_e_3_2 n v wk a s hn hv bn be a0 s0 w
          ·
            have e : rightS n v false true 3 2 a s = true := by simp [rightS, rightB, bn, be, a0, s0]
            rw [e]
            exact ref_d_false_e_3_2 n v wk a s hn hv bn be a0 s0 w
        ·
          have e : rightS n v true d 3 2 a s = false := by simp [rightS, rightB, bn, be, a0, s0]
          rw [e]
          exact ref_oe_e_3_2 n v wk d a s hn hv bn be a0 s0 w

end Go.Proofs.Ythajdklmklaelaa
