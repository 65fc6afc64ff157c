/-
  Layer 4: whether an instruction may be: the document's May.
  Conditions: none. (My own text.)
-/
import Derived.Test.YtmbacegbcccdjaaDoorCdb
import Derived.OwnWalk
namespace Go.Proofs.YtmbacegbcccdjaaDoor
open Go.RowKit
set_option linter.unusedVariables false
set_option linter.unusedSimpArgs false

set_option maxRecDepth 100000 in
set_option maxHeartbeats 4000000 in
theorem name_any (op : Int) (w : World) : Calls Tryd.prog 42 #[.int .i64 op] w fun e w' => e = .returned (.tuple #[.string (nameS op), .string (formS op), .bool (opOk op)]) ∧ w = w' := by
  by_cases h0 : op = 0
  · subst h0
    go_enter Tryd.func42, Tryd.ntmps42
    go_wp2
    go_ret3
    exact ⟨rfl, rfl⟩
  by_cases h1 : op = 1
  · subst h1
    go_enter Tryd.func42, Tryd.ntmps42
    go_wp2
    go_ret3
    exact ⟨rfl, rfl⟩
  by_cases h2 : op = 2
  · subst h2
    go_enter Tryd.func42, Tryd.ntmps42
    go_wp2
    go_ret3
    exact ⟨rfl, rfl⟩
  by_cases h3 : op = 3
  · subst h3
    go_enter Tryd.func42, Tryd.ntmps42
    go_wp2
    go_ret3
    exact ⟨rfl, rfl⟩
  by_cases h4 : op = 4
  · subst h4
    go_enter Tryd.func42, Tryd.ntmps42
    go_wp2
    go_ret3
    exact ⟨rfl, rfl⟩
  by_cases h5 : op = 5
  · subst h5
    go_enter Tryd.func42, Tryd.ntmps42
    go_wp2
    go_ret3
    exact ⟨rfl, rfl⟩
  by_cases h6 : op = 6
  · subst h6
    go_enter Tryd.func42, Tryd.ntmps42
    go_wp2
    go_ret3
    exact ⟨rfl, rfl⟩
  by_cases h7 : op = 7
  · subst h7
    go_enter Tryd.func42, Tryd.ntmps42
    go_wp2
    go_ret3
    exact ⟨rfl, rfl⟩
  by_cases h8 : op = 8
  · subst h8
    go_enter Tryd.func42, Tryd.ntmps42
    go_wp2
    go_ret3
    exact ⟨rfl, rfl⟩
  by_cases h9 : op = 9
  · subst h9
    go_enter Tryd.func42, Tryd.ntmps42
    go_wp2
    go_ret3
    exact ⟨rfl, rfl⟩
  by_cases h10 : op = 10
  · subst h10
    go_enter Tryd.func42, Tryd.ntmps42
    go_wp2
    go_ret3
    exact ⟨rfl, rfl⟩
  by_cases h11 : op = 11
  · subst h11
    go_enter Tryd.func42, Tryd.ntmps42
    go_wp2
    go_ret3
    exact ⟨rfl, rfl⟩
  by_cases h12 : op = 12
  · subst h12
    go_enter Tryd.func42, Tryd.ntmps42
    go_wp2
    go_ret3
    exact ⟨rfl, rfl⟩
  by_cases h13 : op = 13
  · subst h13
    go_enter Tryd.func42, Tryd.ntmps42
    go_wp2
    go_ret3
    exact ⟨rfl, rfl⟩
  by_cases h14 : op = 14
  · subst h14
    go_enter Tryd.func42, Tryd.ntmps42
    go_wp2
    go_ret3
    exact ⟨rfl, rfl⟩
  by_cases h15 : op = 15
  · subst h15
    go_enter Tryd.func42, Tryd.ntmps42
    go_wp2
    go_ret3
    exact ⟨rfl, rfl⟩
  by_cases h16 : op = 16
  · subst h16
    go_enter Tryd.func42, Tryd.ntmps42
    go_wp2
    go_ret3
    exact ⟨rfl, rfl⟩
  by_cases h17 : op = 17
  · subst h17
    go_enter Tryd.func42, Tryd.ntmps42
    go_wp2
    go_ret3
    exact ⟨rfl, rfl⟩
  by_cases h18 : op = 18
  · subst h18
    go_enter Tryd.func42, Tryd.ntmps42
    go_wp2
    go_ret3
    exact ⟨rfl, rfl⟩
  by_cases h19 : op = 19
  · subst h19
    go_enter Tryd.func42, Tryd.ntmps42
    go_wp2
    go_ret3
    exact ⟨rfl, rfl⟩
  by_cases h20 : op = 20
  · subst h20
    go_enter Tryd.func42, Tryd.ntmps42
    go_wp2
    go_ret3
    exact ⟨rfl, rfl⟩
  by_cases h21 : op = 21
  · subst h21
    go_enter Tryd.func42, Tryd.ntmps42
    go_wp2
    go_ret3
    exact ⟨rfl, rfl⟩
  by_cases h22 : op = 22
  · subst h22
    go_enter Tryd.func42, Tryd.ntmps42
    go_wp2
    go_ret3
    exact ⟨rfl, rfl⟩
  have hn : ¬ (0 ≤ op ∧ op < 23) := by omega
  have e1 : nameS op = ⟨#[]⟩ := by unfold nameS; rw [if_neg hn]
  have e2 : formS op = ⟨#[]⟩ := by unfold formS; rw [if_neg hn]
  have e3 : opOk op = false := by unfold opOk; simpa using hn
  rw [e1, e2, e3]
  clear e1 e2 e3 hn
  have g0 : (op == 0) = false := beq_eq_false_iff_ne.2 h0
  have g1 : (op == 1) = false := beq_eq_false_iff_ne.2 h1
  have g2 : (op == 2) = false := beq_eq_false_iff_ne.2 h2
  have g3 : (op == 3) = false := beq_eq_false_iff_ne.2 h3
  have g4 : (op == 4) = false := beq_eq_false_iff_ne.2 h4
  have g5 : (op == 5) = false := beq_eq_false_iff_ne.2 h5
  have g6 : (op == 6) = false := beq_eq_false_iff_ne.2 h6
  have g7 : (op == 7) = false := beq_eq_false_iff_ne.2 h7
  have g8 : (op == 8) = false := beq_eq_false_iff_ne.2 h8
  have g9 : (op == 9) = false := beq_eq_false_iff_ne.2 h9
  have g10 : (op == 10) = false := beq_eq_false_iff_ne.2 h10
  have g11 : (op == 11) = false := beq_eq_false_iff_ne.2 h11
  have g12 : (op == 12) = false := beq_eq_false_iff_ne.2 h12
  have g13 : (op == 13) = false := beq_eq_false_iff_ne.2 h13
  have g14 : (op == 14) = false := beq_eq_false_iff_ne.2 h14
  have g15 : (op == 15) = false := beq_eq_false_iff_ne.2 h15
  have g16 : (op == 16) = false := beq_eq_false_iff_ne.2 h16
  have g17 : (op == 17) = false := beq_eq_false_iff_ne.2 h17
  have g18 : (op == 18) = false := beq_eq_false_iff_ne.2 h18
  have g19 : (op == 19) = false := beq_eq_false_iff_ne.2 h19
  have g20 : (op == 20) = false := beq_eq_false_iff_ne.2 h20
  have g21 : (op == 21) = false := beq_eq_false_iff_ne.2 h21
  have g22 : (op == 22) = false := beq_eq_false_iff_ne.2 h22
  go_enter Tryd.func42, Tryd.ntmps42
  go_wp2
  go_ret3
  exact ⟨rfl, rfl⟩

set_option maxRecDepth 100000 in
theorem ipart_any (i : Ins) (k : Nat) (hk : k < 4) (w : World) : Calls Tryd.prog 43 #[i.val, .int .u8 (ltr k)] w fun e w' => e = .returned (.int .i64 (prt i k)) ∧ Below w.heap.size w w' := by
  obtain ⟨op, a, b, c, n⟩ := i
  have HBL : Hid (Below w.heap.size w (w.alloc (.cells #[.int .i64 op, .int .i64 a, .int .i64 b, .int .i64 c, .int .i64 n] 39))) := Lib.hid ((Below.refl _ _).alloc (Nat.le_refl _) _)
  unfold Ins.val
  obtain rfl | rfl | rfl | rfl := ltr_cases hk
  all_goals
    simp only [ltr, List.getD_cons_zero, List.getD_cons_succ]
    go_enter Tryd.func43, Tryd.ntmps43
    go_wp2
    go_ret
    exact ⟨rfl, HBL.out⟩
def rngS (k : Nat) (x : Int) : Bool := decide (lowS k ≤ x ∧ x ≤ highS k)
set_option maxRecDepth 100000 in
theorem ranged_ltr (k : Nat) (hk : k < 4) (x : Int) (w : World) : Calls Tryd.prog 45 #[.int .u8 (ltr k), .int .i64 x] w fun e w' => e = .returned (.bool (rngS k x)) ∧ w = w' := by
  obtain rfl | rfl | rfl | rfl := ltr_cases hk
  all_goals
    simp only [ltr, List.getD_cons_zero, List.getD_cons_succ]
    go_enter Tryd.func45, Tryd.ntmps45
    go_wp2
    all_goals
      go_ret
      refine ⟨?_, rfl⟩
      simp [rngS, lowS, highS]
      try omega

theorem idx_miss {l : List UInt8} {c : UInt8} (h : ∀ j, j < l.length → l[j]? ≠ some c) : Lib.indexByte l c = -1 := by
  induction l with
  | nil => rfl
  | cons b l ih =>
    unfold Lib.indexByte
    have h0 := h 0 (by simp)
    rw [ih (fun j hj e => h (j + 1) (by simpa using hj) (by simpa using e))]
    have hne : (b == c) = false := beq_eq_false_iff_ne.2 (fun e => h0 (by simp [e]))
    simp [hne]
theorem idx_hit {l : List UInt8} {c : UInt8} {j : Nat} (h : l[j]? = some c) : 0 ≤ Lib.indexByte l c := by
  induction l generalizing j with
  | nil => simp at h
  | cons b l ih =>
    unfold Lib.indexByte
    by_cases hb : (b == c) = true
    · simp [hb]
    · cases j with
      | zero => simp at h; simp [h] at hb
      | succ j =>
        have := ih (j := j) (by simpa using h)
        simp only [hb]
        simp
        split <;> omega

set_option maxRecDepth 100000 in
set_option maxHeartbeats 1000000 in
theorem stands_any (s : ByteArray) (hs : s.size ≤ 1000) (c : UInt8) (w : World) : Calls Tryd.prog 44 #[.string s, .int .u8 c.toNat] w fun e w' => e = .returned (.bool (decide (0 ≤ Lib.indexByte s.data.toList c))) ∧ w = w' := by
  obtain ⟨R, hR⟩ : ∃ R : Bool, decide (0 ≤ Lib.indexByte s.data.toList c) = R := ⟨_, rfl⟩
  rw [hR]
  have HR := Lib.hid hR
  clear hR
  have hsz : s.data.toList.length = s.size := by simp
  go_enter Tryd.func44, Tryd.ntmps44
  go_wp2_with fail
  go_loop [5] (fun i => ∃ k : Nat, k ≤ s.size ∧ i = .int .i64 k ∧ Hid (∀ j, j < k → s.data.toList[j]? ≠ some c)) (fun i => s.size - (intOf i).toNat)
  case atStart => exact ⟨0, Nat.zero_le _, rfl, Lib.hid (fun j hj => absurd hj (Nat.not_lt_zero _))⟩
  case round =>
    obtain ⟨k, hk, rfl, hno⟩ := hrel
    by_cases hlt : k < s.size
    · obtain ⟨b, hb⟩ : ∃ b, s.data.toList[k]? = some b := ⟨_, List.getElem?_eq_getElem (by omega)⟩
      have q0 : (0 : Int) ≤ (k : Int) := by omega
      have q1 : (k : Int) < (s.size : Int) := by omega
      have HBB : Hid (s.data.toList[k]? = some s[k]) := Lib.hid (by simp [hlt]; rfl)
      clear hb
      by_cases hc : s[k] = c
      · have HE : Hid (R = true) := Lib.hid (by rw [← HR.out]; exact decide_eq_true (idx_hit (j := k) (by rw [HBB.out, hc])))
        have hq : ((s[k].toNat : Int) == (c.toNat : Int)) = true := by rw [hc]; simp
        go_wp2
        go_ret
        exact ⟨by rw [HE.out]; rfl, rfl⟩
      · have hq : ((s[k].toNat : Int) == (c.toNat : Int)) = false := beq_eq_false_iff_ne.2 (fun e => hc (UInt8.toNat_inj.1 (by exact_mod_cast e)))
        have HN : Hid (∀ j, j < k + 1 → s.data.toList[j]? ≠ some c) := Lib.hid (fun j hj e => by
          rcases Nat.lt_or_ge j k with h | h
          · exact hno.out j h e
          · obtain rfl : j = k := by omega
            rw [HBB.out] at e
            exact hc (Option.some.inj e))
        go_wp2
        go_round
        case rel => exact ⟨k + 1, by omega, by go_num, HN⟩
        case measure => simp [intOf]; omega
    · obtain rfl : k = s.size := by omega
      have HE : Hid (R = false) := Lib.hid (by rw [← HR.out, idx_miss (fun j hj => hno.out j (by omega))]; rfl)
      go_wp2
      go_ret
      exact ⟨by rw [HE.out]; rfl, rfl⟩

theorem ltr_u8 {k : Nat} (hk : k < 4) : ∃ c : UInt8, ltr k = (c.toNat : Int) ∧ (ltr k).toNat.toUInt8 = c := by
  obtain rfl | rfl | rfl | rfl := ltr_cases hk
  · exact ⟨97, rfl, rfl⟩
  · exact ⟨98, rfl, rfl⟩
  · exact ⟨99, rfl, rfl⟩
  · exact ⟨110, rfl, rfl⟩
theorem stands_ltr (s : ByteArray) (hs : s.size ≤ 1000) (k : Nat) (hk : k < 4) (w : World) : Calls Tryd.prog 44 #[.string s, .int .u8 (ltr k)] w fun e w' => e = .returned (.bool (hasL s (ltr k))) ∧ w = w' := by
  obtain ⟨c, h1, h2⟩ := ltr_u8 hk
  unfold hasL
  rw [h2, h1]
  exact stands_any s hs c w
theorem form_size (op : Int) : (formS op).size ≤ 1000 := by
  unfold formS
  split
  · rename_i h
    obtain ⟨n, rfl⟩ : ∃ n : Nat, op = n := ⟨op.toNat, by omega⟩
    obtain rfl | rfl | rfl | rfl | rfl | rfl | rfl | rfl | rfl | rfl | rfl | rfl | rfl | rfl | rfl | rfl | rfl | rfl | rfl | rfl | rfl | rfl | rfl : n = 0 ∨ n = 1 ∨ n = 2 ∨ n = 3 ∨ n = 4 ∨ n = 5 ∨ n = 6 ∨ n = 7 ∨ n = 8 ∨ n = 9 ∨ n = 10 ∨ n = 11 ∨ n = 12 ∨ n = 13 ∨ n = 14 ∨ n = 15 ∨ n = 16 ∨ n = 17 ∨ n = 18 ∨ n = 19 ∨ n = 20 ∨ n = 21 ∨ n = 22 := by omega
    all_goals decide
  · decide

end Go.Proofs.YtmbacegbcccdjaaDoor
