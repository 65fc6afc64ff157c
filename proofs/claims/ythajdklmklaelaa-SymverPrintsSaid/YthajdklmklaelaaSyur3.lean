/-
  Layer 7: what Right computes (the document's, part 3).
  Conditions: none. (My own text.)
-/
import Derived.Test.YthajdklmklaelaaSyt
namespace Go.Proofs.Ythajdklmklaelaa
open Go.RowKit
set_option linter.unusedVariables false
set_option linter.unusedSimpArgs false

set_option maxHeartbeats 1000000 in
theorem ref_i_e_3 (n v : ByteArray) (wk : Bool) (o : Bool) (d : Bool) (i a s : Int) (hn : n.size ≤ maxLen) (hv : v.size ≤ maxLen) (bn : nameS n = true) (be : v.toList.isEmpty = true) (a0 : (0 : Int) ≤ a) (s0 : (0 : Int) ≤ s) (q4 : (i != (0 : Int)) = true) (q5 : (i != (1 : Int)) = true) (q6 : (i != (2 : Int)) = true) (w : World) :
    Calls Try.prog 23 #[.agg #[.string n, .string v, .bool o, .int .i64 3, .bool wk, .int .i64 i, .bool d, .int .i64 a, .int .i64 s]] w fun e w' => e = .returned (.bool false) ∧ Below w.heap.size w w' := by
  have N := Lib.hid (fun w : World => (refName_any n hn w).mono fun e w' hh => by rw [bn] at hh; exact hh)
  clear bn hn hv
  go_enter Try.func23, Try.ntmps23
  go_wp2_with fail
  refine (N.out _).mono ?_
  rintro e w1 ⟨rfl, rfl⟩
  go_wp2
  go_ret
  exact ⟨rfl, ((Below.refl _ _).alloc (Nat.le_refl _) _)⟩

set_option maxHeartbeats 1000000 in
theorem ref_oe_e_3_0 (n v : ByteArray) (wk : Bool) (d : Bool) (a s : Int) (hn : n.size ≤ maxLen) (hv : v.size ≤ maxLen) (bn : nameS n = true) (be : v.toList.isEmpty = true) (a0 : (0 : Int) ≤ a) (s0 : (0 : Int) ≤ s) (w : World) :
    Calls Try.prog 23 #[.agg #[.string n, .string v, .bool true, .int .i64 3, .bool wk, .int .i64 0, .bool d, .int .i64 a, .int .i64 s]] w fun e w' => e = .returned (.bool false) ∧ Below w.heap.size w w' := by
  have N := Lib.hid (fun w : World => (refName_any n hn w).mono fun e w' hh => by rw [bn] at hh; exact hh)
  clear bn hn hv
  go_enter Try.func23, Try.ntmps23
  go_wp2_with fail
  refine (N.out _).mono ?_
  rintro e w1 ⟨rfl, rfl⟩
  go_wp2
  go_ret
  exact ⟨rfl, ((Below.refl _ _).alloc (Nat.le_refl _) _)⟩

set_option maxHeartbeats 1000000 in
theorem ref_d_false_e_3_0 (n v : ByteArray) (wk : Bool) (a s : Int) (hn : n.size ≤ maxLen) (hv : v.size ≤ maxLen) (bn : nameS n = true) (be : v.toList.isEmpty = true) (a0 : (0 : Int) ≤ a) (s0 : (0 : Int) ≤ s) (w : World) :
    Calls Try.prog 23 #[.agg #[.string n, .string v, .bool false, .int .i64 3, .bool wk, .int .i64 0, .bool true, .int .i64 a, .int .i64 s]] w fun e w' => e = .returned (.bool true) ∧ Below w.heap.size w w' := by
  have N := Lib.hid (fun w : World => (refName_any n hn w).mono fun e w' hh => by rw [bn] at hh; exact hh)
  clear bn hn hv
  go_enter Try.func23, Try.ntmps23
  go_wp2_with fail
  refine (N.out _).mono ?_
  rintro e w1 ⟨rfl, rfl⟩
  go_wp2
  go_ret
  exact ⟨rfl, ((Below.refl _ _).alloc (Nat.le_refl _) _)⟩

set_option maxHeartbeats 1000000 in
theorem ref_za_e_3_0 (n v : ByteArray) (wk : Bool) (a s : Int) (hn : n.size ≤ maxLen) (hv : v.size ≤ maxLen) (bn : nameS n = true) (be : v.toList.isEmpty = true) (a0 : (0 : Int) ≤ a) (s0 : (0 : Int) ≤ s) (za : (a == (0 : Int)) = false) (w : World) :
    Calls Try.prog 23 #[.agg #[.string n, .string v, .bool false, .int .i64 3, .bool wk, .int .i64 0, .bool false, .int .i64 a, .int .i64 s]] w fun e w' => e = .returned (.bool false) ∧ Below w.heap.size w w' := by
  have N := Lib.hid (fun w : World => (refName_any n hn w).mono fun e w' hh => by rw [bn] at hh; exact hh)
  clear bn hn hv
  go_enter Try.func23, Try.ntmps23
  go_wp2_with fail
  refine (N.out _).mono ?_
  rintro e w1 ⟨rfl, rfl⟩
  go_wp2
  go_ret
  exact ⟨rfl, ((Below.refl _ _).alloc (Nat.le_refl _) _)⟩

set_option maxHeartbeats 1000000 in
theorem ref_zs_e_3_0 (n v : ByteArray) (wk : Bool) (a s : Int) (hn : n.size ≤ maxLen) (hv : v.size ≤ maxLen) (bn : nameS n = true) (be : v.toList.isEmpty = true) (a0 : (0 : Int) ≤ a) (s0 : (0 : Int) ≤ s) (za : (a == (0 : Int)) = true) (zs : (s == (0 : Int)) = false) (w : World) :
    Calls Try.prog 23 #[.agg #[.string n, .string v, .bool false, .int .i64 3, .bool wk, .int .i64 0, .bool false, .int .i64 a, .int .i64 s]] w fun e w' => e = .returned (.bool false) ∧ Below w.heap.size w w' := by
  have N := Lib.hid (fun w : World => (refName_any n hn w).mono fun e w' hh => by rw [bn] at hh; exact hh)
  clear bn hn hv
  go_enter Try.func23, Try.ntmps23
  go_wp2_with fail
  refine (N.out _).mono ?_
  rintro e w1 ⟨rfl, rfl⟩
  go_wp2
  go_ret
  exact ⟨rfl, ((Below.refl _ _).alloc (Nat.le_refl _) _)⟩

set_option maxHeartbeats 1000000 in
theorem ref_ok_e_3_0 (n v : ByteArray) (wk : Bool) (a s : Int) (hn : n.size ≤ maxLen) (hv : v.size ≤ maxLen) (bn : nameS n = true) (be : v.toList.isEmpty = true) (a0 : (0 : Int) ≤ a) (s0 : (0 : Int) ≤ s) (za : (a == (0 : Int)) = true) (zs : (s == (0 : Int)) = true) (w : World) :
    Calls Try.prog 23 #[.agg #[.string n, .string v, .bool false, .int .i64 3, .bool wk, .int .i64 0, .bool false, .int .i64 a, .int .i64 s]] w fun e w' => e = .returned (.bool true) ∧ Below w.heap.size w w' := by
  have N := Lib.hid (fun w : World => (refName_any n hn w).mono fun e w' hh => by rw [bn] at hh; exact hh)
  clear bn hn hv
  go_enter Try.func23, Try.ntmps23
  go_wp2_with fail
  refine (N.out _).mono ?_
  rintro e w1 ⟨rfl, rfl⟩
  go_wp2
  go_ret
  exact ⟨rfl, ((Below.refl _ _).alloc (Nat.le_refl _) _)⟩

set_option maxHeartbeats 1000000 in
theorem ref_oe_e_3_1 (n v : ByteArray) (wk : Bool) (d : Bool) (a s : Int) (hn : n.size ≤ maxLen) (hv : v.size ≤ maxLen) (bn : nameS n = true) (be : v.toList.isEmpty = true) (a0 : (0 : Int) ≤ a) (s0 : (0 : Int) ≤ s) (w : World) :
    Calls Try.prog 23 #[.agg #[.string n, .string v, .bool true, .int .i64 3, .bool wk, .int .i64 1, .bool d, .int .i64 a, .int .i64 s]] w fun e w' => e = .returned (.bool false) ∧ Below w.heap.size w w' := by
  have N := Lib.hid (fun w : World => (refName_any n hn w).mono fun e w' hh => by rw [bn] at hh; exact hh)
  clear bn hn hv
  go_enter Try.func23, Try.ntmps23
  go_wp2_with fail
  refine (N.out _).mono ?_
  rintro e w1 ⟨rfl, rfl⟩
  go_wp2
  go_ret
  exact ⟨rfl, ((Below.refl _ _).alloc (Nat.le_refl _) _)⟩

set_option maxHeartbeats 1000000 in
theorem ref_d_false_e_3_1 (n v : ByteArray) (wk : Bool) (a s : Int) (hn : n.size ≤ maxLen) (hv : v.size ≤ maxLen) (bn : nameS n = true) (be : v.toList.isEmpty = true) (a0 : (0 : Int) ≤ a) (s0 : (0 : Int) ≤ s) (w : World) :
    Calls Try.prog 23 #[.agg #[.string n, .string v, .bool false, .int .i64 3, .bool wk, .int .i64 1, .bool true, .int .i64 a, .int .i64 s]] w fun e w' => e = .returned (.bool true) ∧ Below w.heap.size w w' := by
  have N := Lib.hid (fun w : World => (refName_any n hn w).mono fun e w' hh => by rw [bn] at hh; exact hh)
  clear bn hn hv
  go_enter Try.func23, Try.ntmps23
  go_wp2_with fail
  refine (N.out _).mono ?_
  rintro e w1 ⟨rfl, rfl⟩
  go_wp2
  go_ret
  exact ⟨rfl, ((Below.refl _ _).alloc (Nat.le_refl _) _)⟩

set_option maxHeartbeats 1000000 in
theorem ref_zi_e_3_1 (n v : ByteArray) (wk : Bool) (a s : Int) (hn : n.size ≤ maxLen) (hv : v.size ≤ maxLen) (bn : nameS n = true) (be : v.toList.isEmpty = true) (a0 : (0 : Int) ≤ a) (s0 : (0 : Int) ≤ s) (w : World) :
    Calls Try.prog 23 #[.agg #[.string n, .string v, .bool false, .int .i64 3, .bool wk, .int .i64 1, .bool false, .int .i64 a, .int .i64 s]] w fun e w' => e = .returned (.bool false) ∧ Below w.heap.size w w' := by
  have N := Lib.hid (fun w : World => (refName_any n hn w).mono fun e w' hh => by rw [bn] at hh; exact hh)
  clear bn hn hv
  go_enter Try.func23, Try.ntmps23
  go_wp2_with fail
  refine (N.out _).mono ?_
  rintro e w1 ⟨rfl, rfl⟩
  go_wp2
  go_ret
  exact ⟨rfl, ((Below.refl _ _).alloc (Nat.le_refl _) _)⟩

set_option maxHeartbeats 1000000 in
theorem ref_oe_e_3_2 (n v : ByteArray) (wk : Bool) (d : Bool) (a s : Int) (hn : n.size ≤ maxLen) (hv : v.size ≤ maxLen) (bn : nameS n = true) (be : v.toList.isEmpty = true) (a0 : (0 : Int) ≤ a) (s0 : (0 : Int) ≤ s) (w : World) :
    Calls Try.prog 23 #[.agg #[.string n, .string v, .bool true, .int .i64 3, .bool wk, .int .i64 2, .bool d, .int .i64 a, .int .i64 s]] w fun e w' => e = .returned (.bool false) ∧ Below w.heap.size w w' := by
  have N := Lib.hid (fun w : World => (refName_any n hn w).mono fun e w' hh => by rw [bn] at hh; exact hh)
  clear bn hn hv
  go_enter Try.func23, Try.ntmps23
  go_wp2_with fail
  refine (N.out _).mono ?_
  rintro e w1 ⟨rfl, rfl⟩
  go_wp2
  go_ret
  exact ⟨rfl, ((Below.refl _ _).alloc (Nat.le_refl _) _)⟩

set_option maxHeartbeats 1000000 in
theorem ref_d_false_e_3_2 (n v : ByteArray) (wk : Bool) (a s : Int) (hn : n.size ≤ maxLen) (hv : v.size ≤ maxLen) (bn : nameS n = true) (be : v.toList.isEmpty = true) (a0 : (0 : Int) ≤ a) (s0 : (0 : Int) ≤ s) (w : World) :
    Calls Try.prog 23 #[.agg #[.string n, .string v, .bool false, .int .i64 3, .bool wk, .int .i64 2, .bool true, .int .i64 a, .int .i64 s]] w fun e w' => e = .returned (.bool true) ∧ Below w.heap.size w w' := by
  have N := Lib.hid (fun w : World => (refName_any n hn w).mono fun e w' hh => by rw [bn] at hh; exact hh)
  clear bn hn hv
  go_enter Try.func23, Try.ntmps23
  go_wp2_with fail
  refine (N.out _).mono ?_
  rintro e w1 ⟨rfl, rfl⟩
  go_wp2
  go_ret
  exact ⟨rfl, ((Below.refl _ _).alloc (Nat.le_refl _) _)⟩

set_option maxHeartbeats 1000000 in
theorem ref_zi_e_3_2 (n v : ByteArray) (wk : Bool) (a s : Int) (hn : n.size ≤ maxLen) (hv : v.size ≤ maxLen) (bn : nameS n = true) (be : v.toList.isEmpty = true) (a0 : (0 : Int) ≤ a) (s0 : (0 : Int) ≤ s) (w : World) :
    Calls Try.prog 23 #[.agg #[.string n, .string v, .bool false, .int .i64 3, .bool wk, .int .i64 2, .bool false, .int .i64 a, .int .i64 s]] w fun e w' => e = .returned (.bool false) ∧ Below w.heap.size w w' := by
  have N := Lib.hid (fun w : World => (refName_any n hn w).mono fun e w' hh => by rw [bn] at hh; exact hh)
  clear bn hn hv
  go_enter Try.func23, Try.ntmps23
  go_wp2_with fail
  refine (N.out _).mono ?_
  rintro e w1 ⟨rfl, rfl⟩
  go_wp2
  go_ret
  exact ⟨rfl, ((Below.refl _ _).alloc (Nat.le_refl _) _)⟩

set_option maxHeartbeats 1000000 in
theorem ref_i_n_3 (n v : ByteArray) (wk : Bool) (o : Bool) (d : Bool) (i a s : Int) (hn : n.size ≤ maxLen) (hv : v.size ≤ maxLen) (bn : nameS n = true) (be : v.toList.isEmpty = false) (bv : nameS v = true) (a0 : (0 : Int) ≤ a) (s0 : (0 : Int) ≤ s) (q4 : (i != (0 : Int)) = true) (q5 : (i != (1 : Int)) = true) (q6 : (i != (2 : Int)) = true) (w : World) :
    Calls Try.prog 23 #[.agg #[.string n, .string v, .bool o, .int .i64 3, .bool wk, .int .i64 i, .bool d, .int .i64 a, .int .i64 s]] w fun e w' => e = .returned (.bool false) ∧ Below w.heap.size w w' := by
  have N := Lib.hid (fun w : World => (refName_any n hn w).mono fun e w' hh => by rw [bn] at hh; exact hh)
  have V := Lib.hid (fun w : World => (refName_any v hv w).mono fun e w' hh => by rw [bv] at hh; exact hh)
  clear bn bv hn hv
  go_enter Try.func23, Try.ntmps23
  go_wp2_with fail
  refine (N.out _).mono ?_
  rintro e w1 ⟨rfl, rfl⟩
  go_wp2_with fail
  refine (V.out _).mono ?_
  rintro e w2 ⟨rfl, rfl⟩
  go_wp2
  go_ret
  exact ⟨rfl, ((Below.refl _ _).alloc (Nat.le_refl _) _)⟩

set_option maxHeartbeats 1000000 in
theorem ref_d_false_n_3_0 (n v : ByteArray) (wk : Bool) (a s : Int) (hn : n.size ≤ maxLen) (hv : v.size ≤ maxLen) (bn : nameS n = true) (be : v.toList.isEmpty = false) (bv : nameS v = true) (a0 : (0 : Int) ≤ a) (s0 : (0 : Int) ≤ s) (w : World) :
    Calls Try.prog 23 #[.agg #[.string n, .string v, .bool false, .int .i64 3, .bool wk, .int .i64 0, .bool true, .int .i64 a, .int .i64 s]] w fun e w' => e = .returned (.bool true) ∧ Below w.heap.size w w' := by
  have N := Lib.hid (fun w : World => (refName_any n hn w).mono fun e w' hh => by rw [bn] at hh; exact hh)
  have V := Lib.hid (fun w : World => (refName_any v hv w).mono fun e w' hh => by rw [bv] at hh; exact hh)
  clear bn bv hn hv
  go_enter Try.func23, Try.ntmps23
  go_wp2_with fail
  refine (N.out _).mono ?_
  rintro e w1 ⟨rfl, rfl⟩
  go_wp2_with fail
  refine (V.out _).mono ?_
  rintro e w2 ⟨rfl, rfl⟩
  go_wp2
  go_ret
  exact ⟨rfl, ((Below.refl _ _).alloc (Nat.le_refl _) _)⟩

set_option maxHeartbeats 1000000 in
theorem ref_d_true_n_3_0 (n v : ByteArray) (wk : Bool) (a s : Int) (hn : n.size ≤ maxLen) (hv : v.size ≤ maxLen) (bn : nameS n = true) (be : v.toList.isEmpty = false) (bv : nameS v = true) (a0 : (0 : Int) ≤ a) (s0 : (0 : Int) ≤ s) (w : World) :
    Calls Try.prog 23 #[.agg #[.string n, .string v, .bool true, .int .i64 3, .bool wk, .int .i64 0, .bool true, .int .i64 a, .int .i64 s]] w fun e w' => e = .returned (.bool true) ∧ Below w.heap.size w w' := by
  have N := Lib.hid (fun w : World => (refName_any n hn w).mono fun e w' hh => by rw [bn] at hh; exact hh)
  have V := Lib.hid (fun w : World => (refName_any v hv w).mono fun e w' hh => by rw [bv] at hh; exact hh)
  clear bn bv hn hv
  go_enter Try.func23, Try.ntmps23
  go_wp2_with fail
  refine (N.out _).mono ?_
  rintro e w1 ⟨rfl, rfl⟩
  go_wp2_with fail
  refine (V.out _).mono ?_
  rintro e w2 ⟨rfl, rfl⟩
  go_wp2
  go_ret
  exact ⟨rfl, ((Below.refl _ _).alloc (Nat.le_refl _) _)⟩

set_option maxHeartbeats 1000000 in
theorem ref_o_n_3_0 (n v : ByteArray) (wk : Bool) (a s : Int) (hn : n.size ≤ maxLen) (hv : v.size ≤ maxLen) (bn : nameS n = true) (be : v.toList.isEmpty = false) (bv : nameS v = true) (a0 : (0 : Int) ≤ a) (s0 : (0 : Int) ≤ s) (w : World) :
    Calls Try.prog 23 #[.agg #[.string n, .string v, .bool true, .int .i64 3, .bool wk, .int .i64 0, .bool false, .int .i64 a, .int .i64 s]] w fun e w' => e = .returned (.bool false) ∧ Below w.heap.size w w' := by
  have N := Lib.hid (fun w : World => (refName_any n hn w).mono fun e w' hh => by rw [bn] at hh; exact hh)
  have V := Lib.hid (fun w : World => (refName_any v hv w).mono fun e w' hh => by rw [bv] at hh; exact hh)
  clear bn bv hn hv
  go_enter Try.func23, Try.ntmps23
  go_wp2_with fail
  refine (N.out _).mono ?_
  rintro e w1 ⟨rfl, rfl⟩
  go_wp2_with fail
  refine (V.out _).mono ?_
  rintro e w2 ⟨rfl, rfl⟩
  go_wp2
  go_ret
  exact ⟨rfl, ((Below.refl _ _).alloc (Nat.le_refl _) _)⟩

set_option maxHeartbeats 1000000 in
theorem ref_za_n_3_0 (n v : ByteArray) (wk : Bool) (a s : Int) (hn : n.size ≤ maxLen) (hv : v.size ≤ maxLen) (bn : nameS n = true) (be : v.toList.isEmpty = false) (bv : nameS v = true) (a0 : (0 : Int) ≤ a) (s0 : (0 : Int) ≤ s) (za : (a == (0 : Int)) = false) (w : World) :
    Calls Try.prog 23 #[.agg #[.string n, .string v, .bool false, .int .i64 3, .bool wk, .int .i64 0, .bool false, .int .i64 a, .int .i64 s]] w fun e w' => e = .returned (.bool false) ∧ Below w.heap.size w w' := by
  have N := Lib.hid (fun w : World => (refName_any n hn w).mono fun e w' hh => by rw [bn] at hh; exact hh)
  have V := Lib.hid (fun w : World => (refName_any v hv w).mono fun e w' hh => by rw [bv] at hh; exact hh)
  clear bn bv hn hv
  go_enter Try.func23, Try.ntmps23
  go_wp2_with fail
  refine (N.out _).mono ?_
  rintro e w1 ⟨rfl, rfl⟩
  go_wp2_with fail
  refine (V.out _).mono ?_
  rintro e w2 ⟨rfl, rfl⟩
  go_wp2
  go_ret
  exact ⟨rfl, ((Below.refl _ _).alloc (Nat.le_refl _) _)⟩

set_option maxHeartbeats 1000000 in
theorem ref_zs_n_3_0 (n v : ByteArray) (wk : Bool) (a s : Int) (hn : n.size ≤ maxLen) (hv : v.size ≤ maxLen) (bn : nameS n = true) (be : v.toList.isEmpty = false) (bv : nameS v = true) (a0 : (0 : Int) ≤ a) (s0 : (0 : Int) ≤ s) (za : (a == (0 : Int)) = true) (zs : (s == (0 : Int)) = false) (w : World) :
    Calls Try.prog 23 #[.agg #[.string n, .string v, .bool false, .int .i64 3, .bool wk, .int .i64 0, .bool false, .int .i64 a, .int .i64 s]] w fun e w' => e = .returned (.bool false) ∧ Below w.heap.size w w' := by
  have N := Lib.hid (fun w : World => (refName_any n hn w).mono fun e w' hh => by rw [bn] at hh; exact hh)
  have V := Lib.hid (fun w : World => (refName_any v hv w).mono fun e w' hh => by rw [bv] at hh; exact hh)
  clear bn bv hn hv
  go_enter Try.func23, Try.ntmps23
  go_wp2_with fail
  refine (N.out _).mono ?_
  rintro e w1 ⟨rfl, rfl⟩
  go_wp2_with fail
  refine (V.out _).mono ?_
  rintro e w2 ⟨rfl, rfl⟩
  go_wp2
  go_ret
  exact ⟨rfl, ((Below.refl _ _).alloc (Nat.le_refl _) _)⟩

set_option maxHeartbeats 1000000 in
theorem ref_ok_n_3_0 (n v : ByteArray) (wk : Bool) (a s : Int) (hn : n.size ≤ maxLen) (hv : v.size ≤ maxLen) (bn : nameS n = true) (be : v.toList.isEmpty = false) (bv : nameS v = true) (a0 : (0 : Int) ≤ a) (s0 : (0 : Int) ≤ s) (za : (a == (0 : Int)) = true) (zs : (s == (0 : Int)) = true) (w : World) :
    Calls Try.prog 23 #[.agg #[.string n, .string v, .bool false, .int .i64 3, .bool wk, .int .i64 0, .bool false, .int .i64 a, .int .i64 s]] w fun e w' => e = .returned (.bool true) ∧ Below w.heap.size w w' := by
  have N := Lib.hid (fun w : World => (refName_any n hn w).mono fun e w' hh => by rw [bn] at hh; exact hh)
  have V := Lib.hid (fun w : World => (refName_any v hv w).mono fun e w' hh => by rw [bv] at hh; exact hh)
  clear bn bv hn hv
  go_enter Try.func23, Try.ntmps23
  go_wp2_with fail
  refine (N.out _).mono ?_
  rintro e w1 ⟨rfl, rfl⟩
  go_wp2_with fail
  refine (V.out _).mono ?_
  rintro e w2 ⟨rfl, rfl⟩
  go_wp2
  go_ret
  exact ⟨rfl, ((Below.refl _ _).alloc (Nat.le_refl _) _)⟩

set_option maxHeartbeats 1000000 in
theorem ref_d_false_n_3_1 (n v : ByteArray) (wk : Bool) (a s : Int) (hn : n.size ≤ maxLen) (hv : v.size ≤ maxLen) (bn : nameS n = true) (be : v.toList.isEmpty = false) (bv : nameS v = true) (a0 : (0 : Int) ≤ a) (s0 : (0 : Int) ≤ s) (w : World) :
    Calls Try.prog 23 #[.agg #[.string n, .string v, .bool false, .int .i64 3, .bool wk, .int .i64 1, .bool true, .int .i64 a, .int .i64 s]] w fun e w' => e = .returned (.bool true) ∧ Below w.heap.size w w' := by
  have N := Lib.hid (fun w : World => (refName_any n hn w).mono fun e w' hh => by rw [bn] at hh; exact hh)
  have V := Lib.hid (fun w : World => (refName_any v hv w).mono fun e w' hh => by rw [bv] at hh; exact hh)
  clear bn bv hn hv
  go_enter Try.func23, Try.ntmps23
  go_wp2_with fail
  refine (N.out _).mono ?_
  rintro e w1 ⟨rfl, rfl⟩
  go_wp2_with fail
  refine (V.out _).mono ?_
  rintro e w2 ⟨rfl, rfl⟩
  go_wp2
  go_ret
  exact ⟨rfl, ((Below.refl _ _).alloc (Nat.le_refl _) _)⟩

set_option maxHeartbeats 1000000 in
theorem ref_d_true_n_3_1 (n v : ByteArray) (wk : Bool) (a s : Int) (hn : n.size ≤ maxLen) (hv : v.size ≤ maxLen) (bn : nameS n = true) (be : v.toList.isEmpty = false) (bv : nameS v = true) (a0 : (0 : Int) ≤ a) (s0 : (0 : Int) ≤ s) (w : World) :
    Calls Try.prog 23 #[.agg #[.string n, .string v, .bool true, .int .i64 3, .bool wk, .int .i64 1, .bool true, .int .i64 a, .int .i64 s]] w fun e w' => e = .returned (.bool true) ∧ Below w.heap.size w w' := by
  have N := Lib.hid (fun w : World => (refName_any n hn w).mono fun e w' hh => by rw [bn] at hh; exact hh)
  have V := Lib.hid (fun w : World => (refName_any v hv w).mono fun e w' hh => by rw [bv] at hh; exact hh)
  clear bn bv hn hv
  go_enter Try.func23, Try.ntmps23
  go_wp2_with fail
  refine (N.out _).mono ?_
  rintro e w1 ⟨rfl, rfl⟩
  go_wp2_with fail
  refine (V.out _).mono ?_
  rintro e w2 ⟨rfl, rfl⟩
  go_wp2
  go_ret
  exact ⟨rfl, ((Below.refl _ _).alloc (Nat.le_refl _) _)⟩

set_option maxHeartbeats 1000000 in
theorem ref_o_n_3_1 (n v : ByteArray) (wk : Bool) (a s : Int) (hn : n.size ≤ maxLen) (hv : v.size ≤ maxLen) (bn : nameS n = true) (be : v.toList.isEmpty = false) (bv : nameS v = true) (a0 : (0 : Int) ≤ a) (s0 : (0 : Int) ≤ s) (w : World) :
    Calls Try.prog 23 #[.agg #[.string n, .string v, .bool true, .int .i64 3, .bool wk, .int .i64 1, .bool false, .int .i64 a, .int .i64 s]] w fun e w' => e = .returned (.bool false) ∧ Below w.heap.size w w' := by
  have N := Lib.hid (fun w : World => (refName_any n hn w).mono fun e w' hh => by rw [bn] at hh; exact hh)
  have V := Lib.hid (fun w : World => (refName_any v hv w).mono fun e w' hh => by rw [bv] at hh; exact hh)
  clear bn bv hn hv
  go_enter Try.func23, Try.ntmps23
  go_wp2_with fail
  refine (N.out _).mono ?_
  rintro e w1 ⟨rfl, rfl⟩
  go_wp2_with fail
  refine (V.out _).mono ?_
  rintro e w2 ⟨rfl, rfl⟩
  go_wp2
  go_ret
  exact ⟨rfl, ((Below.refl _ _).alloc (Nat.le_refl _) _)⟩

set_option maxHeartbeats 1000000 in
theorem ref_zi_n_3_1 (n v : ByteArray) (wk : Bool) (a s : Int) (hn : n.size ≤ maxLen) (hv : v.size ≤ maxLen) (bn : nameS n = true) (be : v.toList.isEmpty = false) (bv : nameS v = true) (a0 : (0 : Int) ≤ a) (s0 : (0 : Int) ≤ s) (w : World) :
    Calls Try.prog 23 #[.agg #[.string n, .string v, .bool false, .int .i64 3, .bool wk, .int .i64 1, .bool false, .int .i64 a, .int .i64 s]] w fun e w' => e = .returned (.bool false) ∧ Below w.heap.size w w' := by
  have N := Lib.hid (fun w : World => (refName_any n hn w).mono fun e w' hh => by rw [bn] at hh; exact hh)
  have V := Lib.hid (fun w : World => (refName_any v hv w).mono fun e w' hh => by rw [bv] at hh; exact hh)
  clear bn bv hn hv
  go_enter Try.func23, Try.ntmps23
  go_wp2_with fail
  refine (N.out _).mono ?_
  rintro e w1 ⟨rfl, rfl⟩
  go_wp2_with fail
  refine (V.out _).mono ?_
  rintro e w2 ⟨rfl, rfl⟩
  go_wp2
  go_ret
  exact ⟨rfl, ((Below.refl _ _).alloc (Nat.le_refl _) _)⟩

set_option maxHeartbeats 1000000 in
theorem ref_d_false_n_3_2 (n v : ByteArray) (wk : Bool) (a s : Int) (hn : n.size ≤ maxLen) (hv : v.size ≤ maxLen) (bn : nameS n = true) (be : v.toList.isEmpty = false) (bv : nameS v = true) (a0 : (0 : Int) ≤ a) (s0 : (0 : Int) ≤ s) (w : World) :
    Calls Try.prog 23 #[.agg #[.string n, .string v, .bool false, .int .i64 3, .bool wk, .int .i64 2, .bool true, .int .i64 a, .int .i64 s]] w fun e w' => e = .returned (.bool true) ∧ Below w.heap.size w w' := by
  have N := Lib.hid (fun w : World => (refName_any n hn w).mono fun e w' hh => by rw [bn] at hh; exact hh)
  have V := Lib.hid (fun w : World => (refName_any v hv w).mono fun e w' hh => by rw [bv] at hh; exact hh)
  clear bn bv hn hv
  go_enter Try.func23, Try.ntmps23
  go_wp2_with fail
  refine (N.out _).mono ?_
  rintro e w1 ⟨rfl, rfl⟩
  go_wp2_with fail
  refine (V.out _).mono ?_
  rintro e w2 ⟨rfl, rfl⟩
  go_wp2
  go_ret
  exact ⟨rfl, ((Below.refl _ _).alloc (Nat.le_refl _) _)⟩

set_option maxHeartbeats 1000000 in
theorem ref_d_true_n_3_2 (n v : ByteArray) (wk : Bool) (a s : Int) (hn : n.size ≤ maxLen) (hv : v.size ≤ maxLen) (bn : nameS n = true) (be : v.toList.isEmpty = false) (bv : nameS v = true) (a0 : (0 : Int) ≤ a) (s0 : (0 : Int) ≤ s) (w : World) :
    Calls Try.prog 23 #[.agg #[.string n, .string v, .bool true, .int .i64 3, .bool wk, .int .i64 2, .bool true, .int .i64 a, .int .i64 s]] w fun e w' => e = .returned (.bool true) ∧ Below w.heap.size w w' := by
  have N := Lib.hid (fun w : World => (refName_any n hn w).mono fun e w' hh => by rw [bn] at hh; exact hh)
  have V := Lib.hid (fun w : World => (refName_any v hv w).mono fun e w' hh => by rw [bv] at hh; exact hh)
  clear bn bv hn hv
  go_enter Try.func23, Try.ntmps23
  go_wp2_with fail
  refine (N.out _).mono ?_
  rintro e w1 ⟨rfl, rfl⟩
  go_wp2_with fail
  refine (V.out _).mono ?_
  rintro e w2 ⟨rfl, rfl⟩
  go_wp2
  go_ret
  exact ⟨rfl, ((Below.refl _ _).alloc (Nat.le_refl _) _)⟩

set_option maxHeartbeats 1000000 in
theorem ref_o_n_3_2 (n v : ByteArray) (wk : Bool) (a s : Int) (hn : n.size ≤ maxLen) (hv : v.size ≤ maxLen) (bn : nameS n = true) (be : v.toList.isEmpty = false) (bv : nameS v = true) (a0 : (0 : Int) ≤ a) (s0 : (0 : Int) ≤ s) (w : World) :
    Calls Try.prog 23 #[.agg #[.string n, .string v, .bool true, .int .i64 3, .bool wk, .int .i64 2, .bool false, .int .i64 a, .int .i64 s]] w fun e w' => e = .returned (.bool false) ∧ Below w.heap.size w w' := by
  have N := Lib.hid (fun w : World => (refName_any n hn w).mono fun e w' hh => by rw [bn] at hh; exact hh)
  have V := Lib.hid (fun w : World => (refName_any v hv w).mono fun e w' hh => by rw [bv] at hh; exact hh)
  clear bn bv hn hv
  go_enter Try.func23, Try.ntmps23
  go_wp2_with fail
  refine (N.out _).mono ?_
  rintro e w1 ⟨rfl, rfl⟩
  go_wp2_with fail
  refine (V.out _).mono ?_
  rintro e w2 ⟨rfl, rfl⟩
  go_wp2
  go_ret
  exact ⟨rfl, ((Below.refl _ _).alloc (Nat.le_refl _) _)⟩

set_option maxHeartbeats 1000000 in
theorem ref_zi_n_3_2 (n v : ByteArray) (wk : Bool) (a s : Int) (hn : n.size ≤ maxLen) (hv : v.size ≤ maxLen) (bn : nameS n = true) (be : v.toList.isEmpty = false) (bv : nameS v = true) (a0 : (0 : Int) ≤ a) (s0 : (0 : Int) ≤ s) (w : World) :
    Calls Try.prog 23 #[.agg #[.string n, .string v, .bool false, .int .i64 3, .bool wk, .int .i64 2, .bool false, .int .i64 a, .int .i64 s]] w fun e w' => e = .returned (.bool false) ∧ Below w.heap.size w w' := by
  have N := Lib.hid (fun w : World => (refName_any n hn w).mono fun e w' hh => by rw [bn] at hh; exact hh)
  have V := Lib.hid (fun w : World => (refName_any v hv w).mono fun e w' hh => by rw [bv] at hh; exact hh)
  clear bn bv hn hv
  go_enter Try.func23, Try.ntmps23
  go_wp2_with fail
  refine (N.out _).mono ?_
  rintro e w1 ⟨rfl, rfl⟩
  go_wp2_with fail
  refine (V.out _).mono ?_
  rintro e w2 ⟨rfl, rfl⟩
  go_wp2
  go_ret
  exact ⟨rfl, ((Below.refl _ _).alloc (Nat.le_refl _) _)⟩

-- PATHS
end Go.Proofs.Ythajdklmklaelaa
