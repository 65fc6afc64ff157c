/-
  Layer 7: what Right computes (the document's, part 0).
  Conditions: none. (My own text.)
-/
import Derived.Test.YthajdklmklaelaaSyt
namespace Go.Proofs.Ythajdklmklaelaa
open Go.RowKit
set_option linter.unusedVariables false
set_option linter.unusedSimpArgs false

set_option maxHeartbeats 1000000 in
theorem ref_f0 (n v : ByteArray) (wk : Bool) (o : Bool) (d : Bool) (k i a s : Int) (hn : n.size ≤ maxLen) (hv : v.size ≤ maxLen) (bn : nameS n = false) (w : World) :
    Calls Try.prog 23 #[.agg #[.string n, .string v, .bool o, .int .i64 k, .bool wk, .int .i64 i, .bool d, .int .i64 a, .int .i64 s]] w fun e w' => e = .returned (.bool false) ∧ Below w.heap.size w w' := by
  have N := Lib.hid (fun w : World => (refName_any n hn w).mono fun e w' hh => by rw [bn] at hh; exact hh)
  clear bn hn hv
  go_enter Try.func23, Try.ntmps23
  go_wp2_with fail
  refine (N.out _).mono ?_
  rintro e w1 ⟨rfl, rfl⟩
  go_wp2
  go_ret
  exact ⟨rfl, ((Below.refl _ _).alloc (Nat.le_refl _) _)⟩

set_option maxHeartbeats 1000000 in
theorem ref_f1 (n v : ByteArray) (wk : Bool) (o : Bool) (d : Bool) (k i a s : Int) (hn : n.size ≤ maxLen) (hv : v.size ≤ maxLen) (bn : nameS n = true) (be : v.toList.isEmpty = false) (bv : nameS v = false) (w : World) :
    Calls Try.prog 23 #[.agg #[.string n, .string v, .bool o, .int .i64 k, .bool wk, .int .i64 i, .bool d, .int .i64 a, .int .i64 s]] w fun e w' => e = .returned (.bool false) ∧ Below w.heap.size w w' := by
  have N := Lib.hid (fun w : World => (refName_any n hn w).mono fun e w' hh => by rw [bn] at hh; exact hh)
  have V := Lib.hid (fun w : World => (refName_any v hv w).mono fun e w' hh => by rw [bv] at hh; exact hh)
  clear bn bv hn hv
  go_enter Try.func23, Try.ntmps23
  go_wp2_with fail
  refine (N.out _).mono ?_
  rintro e w1 ⟨rfl, rfl⟩
  go_wp2_with fail
  refine (V.out _).mono ?_
  rintro e w2 ⟨rfl, rfl⟩
  go_wp2
  go_ret
  exact ⟨rfl, ((Below.refl _ _).alloc (Nat.le_refl _) _)⟩

set_option maxHeartbeats 1000000 in
theorem ref_a_e (n v : ByteArray) (wk : Bool) (o : Bool) (d : Bool) (k i a s : Int) (hn : n.size ≤ maxLen) (hv : v.size ≤ maxLen) (bn : nameS n = true) (be : v.toList.isEmpty = true) (a0 : ¬ ((0 : Int) ≤ a)) (w : World) :
    Calls Try.prog 23 #[.agg #[.string n, .string v, .bool o, .int .i64 k, .bool wk, .int .i64 i, .bool d, .int .i64 a, .int .i64 s]] w fun e w' => e = .returned (.bool false) ∧ Below w.heap.size w w' := by
  have N := Lib.hid (fun w : World => (refName_any n hn w).mono fun e w' hh => by rw [bn] at hh; exact hh)
  clear bn hn hv
  go_enter Try.func23, Try.ntmps23
  go_wp2_with fail
  refine (N.out _).mono ?_
  rintro e w1 ⟨rfl, rfl⟩
  go_wp2
  go_ret
  exact ⟨rfl, ((Below.refl _ _).alloc (Nat.le_refl _) _)⟩

set_option maxHeartbeats 1000000 in
theorem ref_s_e (n v : ByteArray) (wk : Bool) (o : Bool) (d : Bool) (k i a s : Int) (hn : n.size ≤ maxLen) (hv : v.size ≤ maxLen) (bn : nameS n = true) (be : v.toList.isEmpty = true) (a0 : (0 : Int) ≤ a) (s0 : ¬ ((0 : Int) ≤ s)) (w : World) :
    Calls Try.prog 23 #[.agg #[.string n, .string v, .bool o, .int .i64 k, .bool wk, .int .i64 i, .bool d, .int .i64 a, .int .i64 s]] w fun e w' => e = .returned (.bool false) ∧ Below w.heap.size w w' := by
  have N := Lib.hid (fun w : World => (refName_any n hn w).mono fun e w' hh => by rw [bn] at hh; exact hh)
  clear bn hn hv
  go_enter Try.func23, Try.ntmps23
  go_wp2_with fail
  refine (N.out _).mono ?_
  rintro e w1 ⟨rfl, rfl⟩
  go_wp2
  go_ret
  exact ⟨rfl, ((Below.refl _ _).alloc (Nat.le_refl _) _)⟩

set_option maxHeartbeats 1000000 in
theorem ref_k_e (n v : ByteArray) (wk : Bool) (o : Bool) (d : Bool) (k i a s : Int) (hn : n.size ≤ maxLen) (hv : v.size ≤ maxLen) (bn : nameS n = true) (be : v.toList.isEmpty = true) (a0 : (0 : Int) ≤ a) (s0 : (0 : Int) ≤ s) (q1 : (k != (1 : Int)) = true) (q2 : (k != (2 : Int)) = true) (q3 : (k != (3 : Int)) = true) (w : World) :
    Calls Try.prog 23 #[.agg #[.string n, .string v, .bool o, .int .i64 k, .bool wk, .int .i64 i, .bool d, .int .i64 a, .int .i64 s]] w fun e w' => e = .returned (.bool false) ∧ Below w.heap.size w w' := by
  have N := Lib.hid (fun w : World => (refName_any n hn w).mono fun e w' hh => by rw [bn] at hh; exact hh)
  clear bn hn hv
  go_enter Try.func23, Try.ntmps23
  go_wp2_with fail
  refine (N.out _).mono ?_
  rintro e w1 ⟨rfl, rfl⟩
  go_wp2
  go_ret
  exact ⟨rfl, ((Below.refl _ _).alloc (Nat.le_refl _) _)⟩

set_option maxHeartbeats 1000000 in
theorem ref_a_n (n v : ByteArray) (wk : Bool) (o : Bool) (d : Bool) (k i a s : Int) (hn : n.size ≤ maxLen) (hv : v.size ≤ maxLen) (bn : nameS n = true) (be : v.toList.isEmpty = false) (bv : nameS v = true) (a0 : ¬ ((0 : Int) ≤ a)) (w : World) :
    Calls Try.prog 23 #[.agg #[.string n, .string v, .bool o, .int .i64 k, .bool wk, .int .i64 i, .bool d, .int .i64 a, .int .i64 s]] w fun e w' => e = .returned (.bool false) ∧ Below w.heap.size w w' := by
  have N := Lib.hid (fun w : World => (refName_any n hn w).mono fun e w' hh => by rw [bn] at hh; exact hh)
  have V := Lib.hid (fun w : World => (refName_any v hv w).mono fun e w' hh => by rw [bv] at hh; exact hh)
  clear bn bv hn hv
  go_enter Try.func23, Try.ntmps23
  go_wp2_with fail
  refine (N.out _).mono ?_
  rintro e w1 ⟨rfl, rfl⟩
  go_wp2_with fail
  refine (V.out _).mono ?_
  rintro e w2 ⟨rfl, rfl⟩
  go_wp2
  go_ret
  exact ⟨rfl, ((Below.refl _ _).alloc (Nat.le_refl _) _)⟩

set_option maxHeartbeats 1000000 in
theorem ref_s_n (n v : ByteArray) (wk : Bool) (o : Bool) (d : Bool) (k i a s : Int) (hn : n.size ≤ maxLen) (hv : v.size ≤ maxLen) (bn : nameS n = true) (be : v.toList.isEmpty = false) (bv : nameS v = true) (a0 : (0 : Int) ≤ a) (s0 : ¬ ((0 : Int) ≤ s)) (w : World) :
    Calls Try.prog 23 #[.agg #[.string n, .string v, .bool o, .int .i64 k, .bool wk, .int .i64 i, .bool d, .int .i64 a, .int .i64 s]] w fun e w' => e = .returned (.bool false) ∧ Below w.heap.size w w' := by
  have N := Lib.hid (fun w : World => (refName_any n hn w).mono fun e w' hh => by rw [bn] at hh; exact hh)
  have V := Lib.hid (fun w : World => (refName_any v hv w).mono fun e w' hh => by rw [bv] at hh; exact hh)
  clear bn bv hn hv
  go_enter Try.func23, Try.ntmps23
  go_wp2_with fail
  refine (N.out _).mono ?_
  rintro e w1 ⟨rfl, rfl⟩
  go_wp2_with fail
  refine (V.out _).mono ?_
  rintro e w2 ⟨rfl, rfl⟩
  go_wp2
  go_ret
  exact ⟨rfl, ((Below.refl _ _).alloc (Nat.le_refl _) _)⟩

set_option maxHeartbeats 1000000 in
theorem ref_k_n (n v : ByteArray) (wk : Bool) (o : Bool) (d : Bool) (k i a s : Int) (hn : n.size ≤ maxLen) (hv : v.size ≤ maxLen) (bn : nameS n = true) (be : v.toList.isEmpty = false) (bv : nameS v = true) (a0 : (0 : Int) ≤ a) (s0 : (0 : Int) ≤ s) (q1 : (k != (1 : Int)) = true) (q2 : (k != (2 : Int)) = true) (q3 : (k != (3 : Int)) = true) (w : World) :
    Calls Try.prog 23 #[.agg #[.string n, .string v, .bool o, .int .i64 k, .bool wk, .int .i64 i, .bool d, .int .i64 a, .int .i64 s]] w fun e w' => e = .returned (.bool false) ∧ Below w.heap.size w w' := by
  have N := Lib.hid (fun w : World => (refName_any n hn w).mono fun e w' hh => by rw [bn] at hh; exact hh)
  have V := Lib.hid (fun w : World => (refName_any v hv w).mono fun e w' hh => by rw [bv] at hh; exact hh)
  clear bn bv hn hv
  go_enter Try.func23, Try.ntmps23
  go_wp2_with fail
  refine (N.out _).mono ?_
  rintro e w1 ⟨rfl, rfl⟩
  go_wp2_with fail
  refine (V.out _).mono ?_
  rintro e w2 ⟨rfl, rfl⟩
  go_wp2
  go_ret
  exact ⟨rfl, ((Below.refl _ _).alloc (Nat.le_refl _) _)⟩

-- PATHS
end Go.Proofs.Ythajdklmklaelaa
