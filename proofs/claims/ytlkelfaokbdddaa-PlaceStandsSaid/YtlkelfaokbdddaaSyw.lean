/-
  Layer 7: what symver.Name, clevisref07.Name, strings.Cut and CutPrefix at the sign @ compute.
  Conditions: none. (My own text.)
-/
import Derived.Test.YtlkelfaokbdddaaFrame
import Derived.Deep.QuietTactic
import Derived.BigQuiet
import Derived.WalkSpells
import Derived.WalkLawsBesides
import Derived.Outline
import Derived.Lib.Hide
import Derived.Lib.ConvBytes
import Derived.Lib.Bytealg
import Derived.Lib.Strings
namespace Go.Proofs.Ytlkelfaokbdddaa
open Go.RowKit
set_option linter.unusedVariables false
set_option linter.unusedSimpArgs false

/-- May a byte stand in a name? -/
def okB (b : UInt8) : Bool := (decide ((97 : Int) ≤ (b.toNat : Int)) && decide ((b.toNat : Int) ≤ 122)) || (decide ((65 : Int) ≤ (b.toNat : Int)) && decide ((b.toNat : Int) ≤ 90)) || (decide ((48 : Int) ≤ (b.toNat : Int)) && decide ((b.toNat : Int) ≤ 57)) || ((b.toNat : Int) == 95) || ((b.toNat : Int) == 46)

theorem okB_yes {b : UInt8} (h : ((97 : Int) ≤ (b.toNat : Int) ∧ (b.toNat : Int) ≤ 122) ∨ ((65 : Int) ≤ (b.toNat : Int) ∧ (b.toNat : Int) ≤ 90) ∨ ((48 : Int) ≤ (b.toNat : Int) ∧ (b.toNat : Int) ≤ 57) ∨ (b.toNat : Int) = 95 ∨ (b.toNat : Int) = 46) : okB b = true := by
  unfold okB
  simp only [Bool.or_eq_true, Bool.and_eq_true, decide_eq_true_eq, beq_iff_eq]
  omega
theorem okB_no {b : UInt8} (h : ¬ (((97 : Int) ≤ (b.toNat : Int) ∧ (b.toNat : Int) ≤ 122) ∨ ((65 : Int) ≤ (b.toNat : Int) ∧ (b.toNat : Int) ≤ 90) ∨ ((48 : Int) ≤ (b.toNat : Int) ∧ (b.toNat : Int) ≤ 57) ∨ (b.toNat : Int) = 95 ∨ (b.toNat : Int) = 46)) : okB b = false := by
  unfold okB
  simp only [Bool.or_eq_false_iff, Bool.and_eq_false_iff, decide_eq_false_iff_not, beq_eq_false_iff_ne]
  omega

/-- Is it a name? -/
def nameS (s : ByteArray) : Bool := s.data.toList.all okB && decide (1 ≤ s.size) && decide (s.size ≤ 64)

theorem all_take_succ (l : List UInt8) (k : Nat) (hk : k < l.length) : (l.take (k + 1)).all okB = ((l.take k).all okB && okB (l.getD k 0)) := by
  rw [List.take_succ_eq_append_getElem hk, List.all_append, List.getD_eq_getElem?_getD, List.getElem?_eq_getElem hk]
  simp only [List.all_cons, List.all_nil, Bool.and_true, Option.getD_some]

theorem nameS_no {s : ByteArray} {k : Nat} (hk : k < s.size) (h : okB (s.data.toList.getD k 0) = false) : nameS s = false := by
  have hk' : k < s.data.toList.length := by simpa using hk
  have : s.data.toList.all okB = false := by
    rw [List.all_eq_false]
    refine ⟨s.data.toList[k], List.getElem_mem hk', ?_⟩
    rw [List.getD_eq_getElem?_getD, List.getElem?_eq_getElem hk', Option.getD_some] at h
    rw [h]
    exact Bool.false_ne_true
  simp [nameS, this]

theorem bytesWorld_below (w : World) (e : TypeId) (s : ByteArray) : Below w.heap.size w (Lib.bytesWorld w e s) :=
  ⟨rfl, rfl, rfl, by rw [Lib.bytesWorld_size]; omega, fun k hk => Lib.bytesWorld_at_old w e s k hk⟩

theorem getD_at (s : ByteArray) (k : Nat) (hk : k < s.size) : s.data.toList.getD k 0 = s[k] := by
  rw [List.getD_eq_getElem?_getD, List.getElem?_eq_getElem (by simpa using hk)]
  rfl

set_option maxHeartbeats 1000000 in
theorem refName_any (s : ByteArray) (hs : s.size ≤ maxLen) (w : World) :
    Calls Try.prog 53 #[.string s] w fun e w' => e = .returned (.bool (nameS s)) ∧ w = w' := by
  unfold maxLen at hs
  by_cases h1 : (s.size : Int) < 1
  · have hn : nameS s = false := by unfold nameS; rw [decide_eq_false (show ¬ 1 ≤ s.size by omega), Bool.and_false]; rfl
    have HN := Lib.hid hn; clear hn
    go_enter Try.func53, Try.ntmps53
    go_wp2
    go_ret
    exact ⟨by rw [HN.out]; rfl, rfl⟩
  by_cases h2 : (64 : Int) < (s.size : Int)
  · have hn : nameS s = false := by unfold nameS; rw [decide_eq_false (show ¬ s.size ≤ 64 by omega), Bool.and_false]
    have HN := Lib.hid hn; clear hn
    go_enter Try.func53, Try.ntmps53
    go_wp2
    go_ret
    exact ⟨by rw [HN.out]; rfl, rfl⟩
  go_enter Try.func53, Try.ntmps53
  go_wp2
  go_loop [3] (fun i => ∃ k : Nat, k ≤ s.size ∧ i = .int .i64 k ∧ (s.data.toList.take k).all okB = true) (fun i => s.size - (intOf i).toNat)
  case atStart => exact ⟨0, Nat.zero_le _, rfl, rfl⟩
  case round =>
    obtain ⟨k, hk, rfl, hall⟩ := hrel
    have HA := Lib.hid hall; clear hall
    by_cases hlt : k < s.size
    · have e0 := getD_at s k hlt
      have HS := Lib.hid (all_take_succ s.data.toList k (by simpa using hlt))
      have HN := Lib.hid (nameS_no (s := s) hlt)
      rw [e0] at HS HN
      clear e0
      go_wp2
      all_goals first
        | (go_round
           case rel => exact ⟨k + 1, by omega, by go_num, by rw [HS.out, HA.out, okB_yes (by try simp only [beq_iff_eq, beq_eq_false_iff_ne, bne_iff_ne, bne_eq_false_iff_eq] at *
                                                                                             omega)]; rfl⟩
           case measure => simp [intOf]; omega)
        | (go_ret
           exact ⟨by rw [HN.out (okB_no (by try simp only [beq_iff_eq, beq_eq_false_iff_ne, bne_iff_ne, bne_eq_false_iff_eq] at *
                                            omega))]; rfl, rfl⟩)

    · have hk' : k = s.size := by omega
      have hall : s.data.toList.all okB = true := by have := HA.out; rwa [hk', List.take_of_length_le (by simp)] at this
      have hn : nameS s = true := by unfold nameS; rw [hall, decide_eq_true (show 1 ≤ s.size by omega), decide_eq_true (show s.size ≤ 64 by omega)]; rfl
      have HN := Lib.hid hn; clear hn hall hk' HA
      go_wp2
      all_goals (go_ret; exact ⟨by rw [HN.out]; rfl, rfl⟩)
end Go.Proofs.Ytlkelfaokbdddaa
