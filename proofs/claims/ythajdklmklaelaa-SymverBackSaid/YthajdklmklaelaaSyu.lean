/-
  Layer 7: what Right computes (the program's).
  Conditions: none. (My own text.)
-/
import Derived.Test.YthajdklmklaelaaSyt
import Derived.Test.YthajdklmklaelaaCalm
namespace Go.Proofs.Ythajdklmklaelaa
open Go.RowKit
set_option linter.unusedVariables false
set_option linter.unusedSimpArgs false

set_option maxHeartbeats 1000000 in
theorem right_f0_false (n v : ByteArray) (wk : Bool) (o : Bool) (k i a s : Int) (hn : n.size ≤ maxLen) (hv : v.size ≤ maxLen) (bn : nameS n = false) (w : World) :
    Calls Try.prog 20 #[.agg #[.string n, .string v, .bool o, .int .i64 k, .bool wk, .int .i64 i, .bool false, .int .i64 a, .int .i64 s]] w fun e w' => e = .returned (.int .i64 70) ∧ Below w.heap.size w w' := by
  have N := Lib.hid (fun w : World => (name_any n hn w).mono fun e w' hh => by rw [bn] at hh; exact hh)
  clear bn hn hv
  go_enter Try.func20, Try.ntmps20
  go_wp2_with fail
  refine (N.out _).mono ?_
  rintro e w1 ⟨rfl, hb1⟩
  have r1 := row_new hb1
  have g1 := below_box hb1
  have l1 : w.heap.size < w1.heap.size := by have := hb1.size; simp at this; omega
  clear hb1
  go_wp2
  go_ret
  exact ⟨rfl, g1⟩

set_option maxHeartbeats 1000000 in
theorem right_f1_false (n v : ByteArray) (wk : Bool) (o : Bool) (k i a s : Int) (hn : n.size ≤ maxLen) (hv : v.size ≤ maxLen) (bn : nameS n = true) (be : v.toList.isEmpty = false) (bv : nameS v = false) (w : World) :
    Calls Try.prog 20 #[.agg #[.string n, .string v, .bool o, .int .i64 k, .bool wk, .int .i64 i, .bool false, .int .i64 a, .int .i64 s]] w fun e w' => e = .returned (.int .i64 70) ∧ Below w.heap.size w w' := by
  have N := Lib.hid (fun w : World => (name_any n hn w).mono fun e w' hh => by rw [bn] at hh; exact hh)
  have V := Lib.hid (fun w : World => (name_any v hv w).mono fun e w' hh => by rw [bv] at hh; exact hh)
  clear bn bv hn hv
  go_enter Try.func20, Try.ntmps20
  go_wp2_with fail
  refine (N.out _).mono ?_
  rintro e w1 ⟨rfl, hb1⟩
  have r1 := row_new hb1
  have g1 := below_box hb1
  have l1 : w.heap.size < w1.heap.size := by have := hb1.size; simp at this; omega
  clear hb1
  go_wp2_with fail
  refine (V.out _).mono ?_
  rintro e w2 ⟨rfl, hb2⟩
  have r2 := row_stay hb2 r1 l1
  have g2 := g1.trans (hb2.mono g1.size)
  clear hb2 r1
  go_wp2
  go_ret
  exact ⟨rfl, g2⟩

set_option maxHeartbeats 1000000 in
theorem right_k1_e_false (n v : ByteArray) (wk : Bool) (o : Bool) (k i a s : Int) (hn : n.size ≤ maxLen) (hv : v.size ≤ maxLen) (bn : nameS n = true) (be : v.toList.isEmpty = true) (k1 : ¬ ((1 : Int) ≤ k)) (w : World) :
    Calls Try.prog 20 #[.agg #[.string n, .string v, .bool o, .int .i64 k, .bool wk, .int .i64 i, .bool false, .int .i64 a, .int .i64 s]] w fun e w' => e = .returned (.int .i64 70) ∧ Below w.heap.size w w' := by
  have N := Lib.hid (fun w : World => (name_any n hn w).mono fun e w' hh => by rw [bn] at hh; exact hh)
  clear bn hn hv
  go_enter Try.func20, Try.ntmps20
  go_wp2_with fail
  refine (N.out _).mono ?_
  rintro e w1 ⟨rfl, hb1⟩
  have r1 := row_new hb1
  have g1 := below_box hb1
  have l1 : w.heap.size < w1.heap.size := by have := hb1.size; simp at this; omega
  clear hb1
  go_wp2
  go_ret
  exact ⟨rfl, g1⟩

set_option maxHeartbeats 1000000 in
theorem right_k3_e_false (n v : ByteArray) (wk : Bool) (o : Bool) (k i a s : Int) (hn : n.size ≤ maxLen) (hv : v.size ≤ maxLen) (bn : nameS n = true) (be : v.toList.isEmpty = true) (k1 : (1 : Int) ≤ k) (k3 : ¬ ((k : Int) ≤ 3)) (w : World) :
    Calls Try.prog 20 #[.agg #[.string n, .string v, .bool o, .int .i64 k, .bool wk, .int .i64 i, .bool false, .int .i64 a, .int .i64 s]] w fun e w' => e = .returned (.int .i64 70) ∧ Below w.heap.size w w' := by
  have N := Lib.hid (fun w : World => (name_any n hn w).mono fun e w' hh => by rw [bn] at hh; exact hh)
  clear bn hn hv
  go_enter Try.func20, Try.ntmps20
  go_wp2_with fail
  refine (N.out _).mono ?_
  rintro e w1 ⟨rfl, hb1⟩
  have r1 := row_new hb1
  have g1 := below_box hb1
  have l1 : w.heap.size < w1.heap.size := by have := hb1.size; simp at this; omega
  clear hb1
  go_wp2
  go_ret
  exact ⟨rfl, g1⟩

set_option maxHeartbeats 1000000 in
theorem right_i0_e_false (n v : ByteArray) (wk : Bool) (o : Bool) (k i a s : Int) (hn : n.size ≤ maxLen) (hv : v.size ≤ maxLen) (bn : nameS n = true) (be : v.toList.isEmpty = true) (k1 : (1 : Int) ≤ k) (k3 : (k : Int) ≤ 3) (i0 : ¬ ((0 : Int) ≤ i)) (w : World) :
    Calls Try.prog 20 #[.agg #[.string n, .string v, .bool o, .int .i64 k, .bool wk, .int .i64 i, .bool false, .int .i64 a, .int .i64 s]] w fun e w' => e = .returned (.int .i64 70) ∧ Below w.heap.size w w' := by
  have N := Lib.hid (fun w : World => (name_any n hn w).mono fun e w' hh => by rw [bn] at hh; exact hh)
  clear bn hn hv
  go_enter Try.func20, Try.ntmps20
  go_wp2_with fail
  refine (N.out _).mono ?_
  rintro e w1 ⟨rfl, hb1⟩
  have r1 := row_new hb1
  have g1 := below_box hb1
  have l1 : w.heap.size < w1.heap.size := by have := hb1.size; simp at this; omega
  clear hb1
  go_wp2
  go_ret
  exact ⟨rfl, g1⟩

set_option maxHeartbeats 1000000 in
theorem right_i2_e_false (n v : ByteArray) (wk : Bool) (o : Bool) (k i a s : Int) (hn : n.size ≤ maxLen) (hv : v.size ≤ maxLen) (bn : nameS n = true) (be : v.toList.isEmpty = true) (k1 : (1 : Int) ≤ k) (k3 : (k : Int) ≤ 3) (i0 : (0 : Int) ≤ i) (i2 : ¬ ((i : Int) ≤ 2)) (w : World) :
    Calls Try.prog 20 #[.agg #[.string n, .string v, .bool o, .int .i64 k, .bool wk, .int .i64 i, .bool false, .int .i64 a, .int .i64 s]] w fun e w' => e = .returned (.int .i64 70) ∧ Below w.heap.size w w' := by
  have N := Lib.hid (fun w : World => (name_any n hn w).mono fun e w' hh => by rw [bn] at hh; exact hh)
  clear bn hn hv
  go_enter Try.func20, Try.ntmps20
  go_wp2_with fail
  refine (N.out _).mono ?_
  rintro e w1 ⟨rfl, hb1⟩
  have r1 := row_new hb1
  have g1 := below_box hb1
  have l1 : w.heap.size < w1.heap.size := by have := hb1.size; simp at this; omega
  clear hb1
  go_wp2
  go_ret
  exact ⟨rfl, g1⟩

set_option maxHeartbeats 1000000 in
theorem right_a0_e_false (n v : ByteArray) (wk : Bool) (o : Bool) (k i a s : Int) (hn : n.size ≤ maxLen) (hv : v.size ≤ maxLen) (bn : nameS n = true) (be : v.toList.isEmpty = true) (k1 : (1 : Int) ≤ k) (k3 : (k : Int) ≤ 3) (i0 : (0 : Int) ≤ i) (i2 : (i : Int) ≤ 2) (a0 : ¬ ((0 : Int) ≤ a)) (w : World) :
    Calls Try.prog 20 #[.agg #[.string n, .string v, .bool o, .int .i64 k, .bool wk, .int .i64 i, .bool false, .int .i64 a, .int .i64 s]] w fun e w' => e = .returned (.int .i64 70) ∧ Below w.heap.size w w' := by
  have N := Lib.hid (fun w : World => (name_any n hn w).mono fun e w' hh => by rw [bn] at hh; exact hh)
  clear bn hn hv
  go_enter Try.func20, Try.ntmps20
  go_wp2_with fail
  refine (N.out _).mono ?_
  rintro e w1 ⟨rfl, hb1⟩
  have r1 := row_new hb1
  have g1 := below_box hb1
  have l1 : w.heap.size < w1.heap.size := by have := hb1.size; simp at this; omega
  clear hb1
  go_wp2
  go_ret
  exact ⟨rfl, g1⟩

set_option maxHeartbeats 1000000 in
theorem right_s0_e_false (n v : ByteArray) (wk : Bool) (o : Bool) (k i a s : Int) (hn : n.size ≤ maxLen) (hv : v.size ≤ maxLen) (bn : nameS n = true) (be : v.toList.isEmpty = true) (k1 : (1 : Int) ≤ k) (k3 : (k : Int) ≤ 3) (i0 : (0 : Int) ≤ i) (i2 : (i : Int) ≤ 2) (a0 : (0 : Int) ≤ a) (s0 : ¬ ((0 : Int) ≤ s)) (w : World) :
    Calls Try.prog 20 #[.agg #[.string n, .string v, .bool o, .int .i64 k, .bool wk, .int .i64 i, .bool false, .int .i64 a, .int .i64 s]] w fun e w' => e = .returned (.int .i64 70) ∧ Below w.heap.size w w' := by
  have N := Lib.hid (fun w : World => (name_any n hn w).mono fun e w' hh => by rw [bn] at hh; exact hh)
  clear bn hn hv
  go_enter Try.func20, Try.ntmps20
  go_wp2_with fail
  refine (N.out _).mono ?_
  rintro e w1 ⟨rfl, hb1⟩
  have r1 := row_new hb1
  have g1 := below_box hb1
  have l1 : w.heap.size < w1.heap.size := by have := hb1.size; simp at this; omega
  clear hb1
  go_wp2
  go_ret
  exact ⟨rfl, g1⟩

set_option maxHeartbeats 1000000 in
theorem right_k1_n_false (n v : ByteArray) (wk : Bool) (o : Bool) (k i a s : Int) (hn : n.size ≤ maxLen) (hv : v.size ≤ maxLen) (bn : nameS n = true) (be : v.toList.isEmpty = false) (bv : nameS v = true) (k1 : ¬ ((1 : Int) ≤ k)) (w : World) :
    Calls Try.prog 20 #[.agg #[.string n, .string v, .bool o, .int .i64 k, .bool wk, .int .i64 i, .bool false, .int .i64 a, .int .i64 s]] w fun e w' => e = .returned (.int .i64 70) ∧ Below w.heap.size w w' := by
  have N := Lib.hid (fun w : World => (name_any n hn w).mono fun e w' hh => by rw [bn] at hh; exact hh)
  have V := Lib.hid (fun w : World => (name_any v hv w).mono fun e w' hh => by rw [bv] at hh; exact hh)
  clear bn bv hn hv
  go_enter Try.func20, Try.ntmps20
  go_wp2_with fail
  refine (N.out _).mono ?_
  rintro e w1 ⟨rfl, hb1⟩
  have r1 := row_new hb1
  have g1 := below_box hb1
  have l1 : w.heap.size < w1.heap.size := by have := hb1.size; simp at this; omega
  clear hb1
  go_wp2_with fail
  refine (V.out _).mono ?_
  rintro e w2 ⟨rfl, hb2⟩
  have r2 := row_stay hb2 r1 l1
  have g2 := g1.trans (hb2.mono g1.size)
  clear hb2 r1
  go_wp2
  go_ret
  exact ⟨rfl, g2⟩

set_option maxHeartbeats 1000000 in
theorem right_k3_n_false (n v : ByteArray) (wk : Bool) (o : Bool) (k i a s : Int) (hn : n.size ≤ maxLen) (hv : v.size ≤ maxLen) (bn : nameS n = true) (be : v.toList.isEmpty = false) (bv : nameS v = true) (k1 : (1 : Int) ≤ k) (k3 : ¬ ((k : Int) ≤ 3)) (w : World) :
    Calls Try.prog 20 #[.agg #[.string n, .string v, .bool o, .int .i64 k, .bool wk, .int .i64 i, .bool false, .int .i64 a, .int .i64 s]] w fun e w' => e = .returned (.int .i64 70) ∧ Below w.heap.size w w' := by
  have N := Lib.hid (fun w : World => (name_any n hn w).mono fun e w' hh => by rw [bn] at hh; exact hh)
  have V := Lib.hid (fun w : World => (name_any v hv w).mono fun e w' hh => by rw [bv] at hh; exact hh)
  clear bn bv hn hv
  go_enter Try.func20, Try.ntmps20
  go_wp2_with fail
  refine (N.out _).mono ?_
  rintro e w1 ⟨rfl, hb1⟩
  have r1 := row_new hb1
  have g1 := below_box hb1
  have l1 : w.heap.size < w1.heap.size := by have := hb1.size; simp at this; omega
  clear hb1
  go_wp2_with fail
  refine (V.out _).mono ?_
  rintro e w2 ⟨rfl, hb2⟩
  have r2 := row_stay hb2 r1 l1
  have g2 := g1.trans (hb2.mono g1.size)
  clear hb2 r1
  go_wp2
  go_ret
  exact ⟨rfl, g2⟩

set_option maxHeartbeats 1000000 in
theorem right_i0_n_false (n v : ByteArray) (wk : Bool) (o : Bool) (k i a s : Int) (hn : n.size ≤ maxLen) (hv : v.size ≤ maxLen) (bn : nameS n = true) (be : v.toList.isEmpty = false) (bv : nameS v = true) (k1 : (1 : Int) ≤ k) (k3 : (k : Int) ≤ 3) (i0 : ¬ ((0 : Int) ≤ i)) (w : World) :
    Calls Try.prog 20 #[.agg #[.string n, .string v, .bool o, .int .i64 k, .bool wk, .int .i64 i, .bool false, .int .i64 a, .int .i64 s]] w fun e w' => e = .returned (.int .i64 70) ∧ Below w.heap.size w w' := by
  have N := Lib.hid (fun w : World => (name_any n hn w).mono fun e w' hh => by rw [bn] at hh; exact hh)
  have V := Lib.hid (fun w : World => (name_any v hv w).mono fun e w' hh => by rw [bv] at hh; exact hh)
  clear bn bv hn hv
  go_enter Try.func20, Try.ntmps20
  go_wp2_with fail
  refine (N.out _).mono ?_
  rintro e w1 ⟨rfl, hb1⟩
  have r1 := row_new hb1
  have g1 := below_box hb1
  have l1 : w.heap.size < w1.heap.size := by have := hb1.size; simp at this; omega
  clear hb1
  go_wp2_with fail
  refine (V.out _).mono ?_
  rintro e w2 ⟨rfl, hb2⟩
  have r2 := row_stay hb2 r1 l1
  have g2 := g1.trans (hb2.mono g1.size)
  clear hb2 r1
  go_wp2
  go_ret
  exact ⟨rfl, g2⟩

set_option maxHeartbeats 1000000 in
theorem right_i2_n_false (n v : ByteArray) (wk : Bool) (o : Bool) (k i a s : Int) (hn : n.size ≤ maxLen) (hv : v.size ≤ maxLen) (bn : nameS n = true) (be : v.toList.isEmpty = false) (bv : nameS v = true) (k1 : (1 : Int) ≤ k) (k3 : (k : Int) ≤ 3) (i0 : (0 : Int) ≤ i) (i2 : ¬ ((i : Int) ≤ 2)) (w : World) :
    Calls Try.prog 20 #[.agg #[.string n, .string v, .bool o, .int .i64 k, .bool wk, .int .i64 i, .bool false, .int .i64 a, .int .i64 s]] w fun e w' => e = .returned (.int .i64 70) ∧ Below w.heap.size w w' := by
  have N := Lib.hid (fun w : World => (name_any n hn w).mono fun e w' hh => by rw [bn] at hh; exact hh)
  have V := Lib.hid (fun w : World => (name_any v hv w).mono fun e w' hh => by rw [bv] at hh; exact hh)
  clear bn bv hn hv
  go_enter Try.func20, Try.ntmps20
  go_wp2_with fail
  refine (N.out _).mono ?_
  rintro e w1 ⟨rfl, hb1⟩
  have r1 := row_new hb1
  have g1 := below_box hb1
  have l1 : w.heap.size < w1.heap.size := by have := hb1.size; simp at this; omega
  clear hb1
  go_wp2_with fail
  refine (V.out _).mono ?_
  rintro e w2 ⟨rfl, hb2⟩
  have r2 := row_stay hb2 r1 l1
  have g2 := g1.trans (hb2.mono g1.size)
  clear hb2 r1
  go_wp2
  go_ret
  exact ⟨rfl, g2⟩

set_option maxHeartbeats 1000000 in
theorem right_a0_n_false (n v : ByteArray) (wk : Bool) (o : Bool) (k i a s : Int) (hn : n.size ≤ maxLen) (hv : v.size ≤ maxLen) (bn : nameS n = true) (be : v.toList.isEmpty = false) (bv : nameS v = true) (k1 : (1 : Int) ≤ k) (k3 : (k : Int) ≤ 3) (i0 : (0 : Int) ≤ i) (i2 : (i : Int) ≤ 2) (a0 : ¬ ((0 : Int) ≤ a)) (w : World) :
    Calls Try.prog 20 #[.agg #[.string n, .string v, .bool o, .int .i64 k, .bool wk, .int .i64 i, .bool false, .int .i64 a, .int .i64 s]] w fun e w' => e = .returned (.int .i64 70) ∧ Below w.heap.size w w' := by
  have N := Lib.hid (fun w : World => (name_any n hn w).mono fun e w' hh => by rw [bn] at hh; exact hh)
  have V := Lib.hid (fun w : World => (name_any v hv w).mono fun e w' hh => by rw [bv] at hh; exact hh)
  clear bn bv hn hv
  go_enter Try.func20, Try.ntmps20
  go_wp2_with fail
  refine (N.out _).mono ?_
  rintro e w1 ⟨rfl, hb1⟩
  have r1 := row_new hb1
  have g1 := below_box hb1
  have l1 : w.heap.size < w1.heap.size := by have := hb1.size; simp at this; omega
  clear hb1
  go_wp2_with fail
  refine (V.out _).mono ?_
  rintro e w2 ⟨rfl, hb2⟩
  have r2 := row_stay hb2 r1 l1
  have g2 := g1.trans (hb2.mono g1.size)
  clear hb2 r1
  go_wp2
  go_ret
  exact ⟨rfl, g2⟩

set_option maxHeartbeats 1000000 in
theorem right_s0_n_false (n v : ByteArray) (wk : Bool) (o : Bool) (k i a s : Int) (hn : n.size ≤ maxLen) (hv : v.size ≤ maxLen) (bn : nameS n = true) (be : v.toList.isEmpty = false) (bv : nameS v = true) (k1 : (1 : Int) ≤ k) (k3 : (k : Int) ≤ 3) (i0 : (0 : Int) ≤ i) (i2 : (i : Int) ≤ 2) (a0 : (0 : Int) ≤ a) (s0 : ¬ ((0 : Int) ≤ s)) (w : World) :
    Calls Try.prog 20 #[.agg #[.string n, .string v, .bool o, .int .i64 k, .bool wk, .int .i64 i, .bool false, .int .i64 a, .int .i64 s]] w fun e w' => e = .returned (.int .i64 70) ∧ Below w.heap.size w w' := by
  have N := Lib.hid (fun w : World => (name_any n hn w).mono fun e w' hh => by rw [bn] at hh; exact hh)
  have V := Lib.hid (fun w : World => (name_any v hv w).mono fun e w' hh => by rw [bv] at hh; exact hh)
  clear bn bv hn hv
  go_enter Try.func20, Try.ntmps20
  go_wp2_with fail
  refine (N.out _).mono ?_
  rintro e w1 ⟨rfl, hb1⟩
  have r1 := row_new hb1
  have g1 := below_box hb1
  have l1 : w.heap.size < w1.heap.size := by have := hb1.size; simp at this; omega
  clear hb1
  go_wp2_with fail
  refine (V.out _).mono ?_
  rintro e w2 ⟨rfl, hb2⟩
  have r2 := row_stay hb2 r1 l1
  have g2 := g1.trans (hb2.mono g1.size)
  clear hb2 r1
  go_wp2
  go_ret
  exact ⟨rfl, g2⟩

set_option maxHeartbeats 1000000 in
theorem right_f0_true (n v : ByteArray) (wk : Bool) (o : Bool) (k i a s : Int) (hn : n.size ≤ maxLen) (hv : v.size ≤ maxLen) (bn : nameS n = false) (w : World) :
    Calls Try.prog 20 #[.agg #[.string n, .string v, .bool o, .int .i64 k, .bool wk, .int .i64 i, .bool true, .int .i64 a, .int .i64 s]] w fun e w' => e = .returned (.int .i64 70) ∧ Below w.heap.size w w' := by
  have N := Lib.hid (fun w : World => (name_any n hn w).mono fun e w' hh => by rw [bn] at hh; exact hh)
  clear bn hn hv
  go_enter Try.func20, Try.ntmps20
  go_wp2_with fail
  refine (N.out _).mono ?_
  rintro e w1 ⟨rfl, hb1⟩
  have r1 := row_new hb1
  have g1 := below_box hb1
  have l1 : w.heap.size < w1.heap.size := by have := hb1.size; simp at this; omega
  clear hb1
  go_wp2
  go_ret
  exact ⟨rfl, g1⟩

set_option maxHeartbeats 1000000 in
theorem right_f1_true (n v : ByteArray) (wk : Bool) (o : Bool) (k i a s : Int) (hn : n.size ≤ maxLen) (hv : v.size ≤ maxLen) (bn : nameS n = true) (be : v.toList.isEmpty = false) (bv : nameS v = false) (w : World) :
    Calls Try.prog 20 #[.agg #[.string n, .string v, .bool o, .int .i64 k, .bool wk, .int .i64 i, .bool true, .int .i64 a, .int .i64 s]] w fun e w' => e = .returned (.int .i64 70) ∧ Below w.heap.size w w' := by
  have N := Lib.hid (fun w : World => (name_any n hn w).mono fun e w' hh => by rw [bn] at hh; exact hh)
  have V := Lib.hid (fun w : World => (name_any v hv w).mono fun e w' hh => by rw [bv] at hh; exact hh)
  clear bn bv hn hv
  go_enter Try.func20, Try.ntmps20
  go_wp2_with fail
  refine (N.out _).mono ?_
  rintro e w1 ⟨rfl, hb1⟩
  have r1 := row_new hb1
  have g1 := below_box hb1
  have l1 : w.heap.size < w1.heap.size := by have := hb1.size; simp at this; omega
  clear hb1
  go_wp2_with fail
  refine (V.out _).mono ?_
  rintro e w2 ⟨rfl, hb2⟩
  have r2 := row_stay hb2 r1 l1
  have g2 := g1.trans (hb2.mono g1.size)
  clear hb2 r1
  go_wp2
  go_ret
  exact ⟨rfl, g2⟩

set_option maxHeartbeats 1000000 in
theorem right_k1_e_true (n v : ByteArray) (wk : Bool) (o : Bool) (k i a s : Int) (hn : n.size ≤ maxLen) (hv : v.size ≤ maxLen) (bn : nameS n = true) (be : v.toList.isEmpty = true) (k1 : ¬ ((1 : Int) ≤ k)) (w : World) :
    Calls Try.prog 20 #[.agg #[.string n, .string v, .bool o, .int .i64 k, .bool wk, .int .i64 i, .bool true, .int .i64 a, .int .i64 s]] w fun e w' => e = .returned (.int .i64 70) ∧ Below w.heap.size w w' := by
  have N := Lib.hid (fun w : World => (name_any n hn w).mono fun e w' hh => by rw [bn] at hh; exact hh)
  clear bn hn hv
  go_enter Try.func20, Try.ntmps20
  go_wp2_with fail
  refine (N.out _).mono ?_
  rintro e w1 ⟨rfl, hb1⟩
  have r1 := row_new hb1
  have g1 := below_box hb1
  have l1 : w.heap.size < w1.heap.size := by have := hb1.size; simp at this; omega
  clear hb1
  go_wp2
  go_ret
  exact ⟨rfl, g1⟩

set_option maxHeartbeats 1000000 in
theorem right_k3_e_true (n v : ByteArray) (wk : Bool) (o : Bool) (k i a s : Int) (hn : n.size ≤ maxLen) (hv : v.size ≤ maxLen) (bn : nameS n = true) (be : v.toList.isEmpty = true) (k1 : (1 : Int) ≤ k) (k3 : ¬ ((k : Int) ≤ 3)) (w : World) :
    Calls Try.prog 20 #[.agg #[.string n, .string v, .bool o, .int .i64 k, .bool wk, .int .i64 i, .bool true, .int .i64 a, .int .i64 s]] w fun e w' => e = .returned (.int .i64 70) ∧ Below w.heap.size w w' := by
  have N := Lib.hid (fun w : World => (name_any n hn w).mono fun e w' hh => by rw [bn] at hh; exact hh)
  clear bn hn hv
  go_enter Try.func20, Try.ntmps20
  go_wp2_with fail
  refine (N.out _).mono ?_
  rintro e w1 ⟨rfl, hb1⟩
  have r1 := row_new hb1
  have g1 := below_box hb1
  have l1 : w.heap.size < w1.heap.size := by have := hb1.size; simp at this; omega
  clear hb1
  go_wp2
  go_ret
  exact ⟨rfl, g1⟩

set_option maxHeartbeats 1000000 in
theorem right_i0_e_true (n v : ByteArray) (wk : Bool) (o : Bool) (k i a s : Int) (hn : n.size ≤ maxLen) (hv : v.size ≤ maxLen) (bn : nameS n = true) (be : v.toList.isEmpty = true) (k1 : (1 : Int) ≤ k) (k3 : (k : Int) ≤ 3) (i0 : ¬ ((0 : Int) ≤ i)) (w : World) :
    Calls Try.prog 20 #[.agg #[.string n, .string v, .bool o, .int .i64 k, .bool wk, .int .i64 i, .bool true, .int .i64 a, .int .i64 s]] w fun e w' => e = .returned (.int .i64 70) ∧ Below w.heap.size w w' := by
  have N := Lib.hid (fun w : World => (name_any n hn w).mono fun e w' hh => by rw [bn] at hh; exact hh)
  clear bn hn hv
  go_enter Try.func20, Try.ntmps20
  go_wp2_with fail
  refine (N.out _).mono ?_
  rintro e w1 ⟨rfl, hb1⟩
  have r1 := row_new hb1
  have g1 := below_box hb1
  have l1 : w.heap.size < w1.heap.size := by have := hb1.size; simp at this; omega
  clear hb1
  go_wp2
  go_ret
  exact ⟨rfl, g1⟩

set_option maxHeartbeats 1000000 in
theorem right_i2_e_true (n v : ByteArray) (wk : Bool) (o : Bool) (k i a s : Int) (hn : n.size ≤ maxLen) (hv : v.size ≤ maxLen) (bn : nameS n = true) (be : v.toList.isEmpty = true) (k1 : (1 : Int) ≤ k) (k3 : (k : Int) ≤ 3) (i0 : (0 : Int) ≤ i) (i2 : ¬ ((i : Int) ≤ 2)) (w : World) :
    Calls Try.prog 20 #[.agg #[.string n, .string v, .bool o, .int .i64 k, .bool wk, .int .i64 i, .bool true, .int .i64 a, .int .i64 s]] w fun e w' => e = .returned (.int .i64 70) ∧ Below w.heap.size w w' := by
  have N := Lib.hid (fun w : World => (name_any n hn w).mono fun e w' hh => by rw [bn] at hh; exact hh)
  clear bn hn hv
  go_enter Try.func20, Try.ntmps20
  go_wp2_with fail
  refine (N.out _).mono ?_
  rintro e w1 ⟨rfl, hb1⟩
  have r1 := row_new hb1
  have g1 := below_box hb1
  have l1 : w.heap.size < w1.heap.size := by have := hb1.size; simp at this; omega
  clear hb1
  go_wp2
  go_ret
  exact ⟨rfl, g1⟩

set_option maxHeartbeats 1000000 in
theorem right_a0_e_true (n v : ByteArray) (wk : Bool) (o : Bool) (k i a s : Int) (hn : n.size ≤ maxLen) (hv : v.size ≤ maxLen) (bn : nameS n = true) (be : v.toList.isEmpty = true) (k1 : (1 : Int) ≤ k) (k3 : (k : Int) ≤ 3) (i0 : (0 : Int) ≤ i) (i2 : (i : Int) ≤ 2) (a0 : ¬ ((0 : Int) ≤ a)) (w : World) :
    Calls Try.prog 20 #[.agg #[.string n, .string v, .bool o, .int .i64 k, .bool wk, .int .i64 i, .bool true, .int .i64 a, .int .i64 s]] w fun e w' => e = .returned (.int .i64 70) ∧ Below w.heap.size w w' := by
  have N := Lib.hid (fun w : World => (name_any n hn w).mono fun e w' hh => by rw [bn] at hh; exact hh)
  clear bn hn hv
  go_enter Try.func20, Try.ntmps20
  go_wp2_with fail
  refine (N.out _).mono ?_
  rintro e w1 ⟨rfl, hb1⟩
  have r1 := row_new hb1
  have g1 := below_box hb1
  have l1 : w.heap.size < w1.heap.size := by have := hb1.size; simp at this; omega
  clear hb1
  go_wp2
  go_ret
  exact ⟨rfl, g1⟩

set_option maxHeartbeats 1000000 in
theorem right_s0_e_true (n v : ByteArray) (wk : Bool) (o : Bool) (k i a s : Int) (hn : n.size ≤ maxLen) (hv : v.size ≤ maxLen) (bn : nameS n = true) (be : v.toList.isEmpty = true) (k1 : (1 : Int) ≤ k) (k3 : (k : Int) ≤ 3) (i0 : (0 : Int) ≤ i) (i2 : (i : Int) ≤ 2) (a0 : (0 : Int) ≤ a) (s0 : ¬ ((0 : Int) ≤ s)) (w : World) :
    Calls Try.prog 20 #[.agg #[.string n, .string v, .bool o, .int .i64 k, .bool wk, .int .i64 i, .bool true, .int .i64 a, .int .i64 s]] w fun e w' => e = .returned (.int .i64 70) ∧ Below w.heap.size w w' := by
  have N := Lib.hid (fun w : World => (name_any n hn w).mono fun e w' hh => by rw [bn] at hh; exact hh)
  clear bn hn hv
  go_enter Try.func20, Try.ntmps20
  go_wp2_with fail
  refine (N.out _).mono ?_
  rintro e w1 ⟨rfl, hb1⟩
  have r1 := row_new hb1
  have g1 := below_box hb1
  have l1 : w.heap.size < w1.heap.size := by have := hb1.size; simp at this; omega
  clear hb1
  go_wp2
  go_ret
  exact ⟨rfl, g1⟩

set_option maxHeartbeats 1000000 in
theorem right_k1_n_true (n v : ByteArray) (wk : Bool) (o : Bool) (k i a s : Int) (hn : n.size ≤ maxLen) (hv : v.size ≤ maxLen) (bn : nameS n = true) (be : v.toList.isEmpty = false) (bv : nameS v = true) (k1 : ¬ ((1 : Int) ≤ k)) (w : World) :
    Calls Try.prog 20 #[.agg #[.string n, .string v, .bool o, .int .i64 k, .bool wk, .int .i64 i, .bool true, .int .i64 a, .int .i64 s]] w fun e w' => e = .returned (.int .i64 70) ∧ Below w.heap.size w w' := by
  have N := Lib.hid (fun w : World => (name_any n hn w).mono fun e w' hh => by rw [bn] at hh; exact hh)
  have V := Lib.hid (fun w : World => (name_any v hv w).mono fun e w' hh => by rw [bv] at hh; exact hh)
  clear bn bv hn hv
  go_enter Try.func20, Try.ntmps20
  go_wp2_with fail
  refine (N.out _).mono ?_
  rintro e w1 ⟨rfl, hb1⟩
  have r1 := row_new hb1
  have g1 := below_box hb1
  have l1 : w.heap.size < w1.heap.size := by have := hb1.size; simp at this; omega
  clear hb1
  go_wp2_with fail
  refine (V.out _).mono ?_
  rintro e w2 ⟨rfl, hb2⟩
  have r2 := row_stay hb2 r1 l1
  have g2 := g1.trans (hb2.mono g1.size)
  clear hb2 r1
  go_wp2
  go_ret
  exact ⟨rfl, g2⟩

set_option maxHeartbeats 1000000 in
theorem right_k3_n_true (n v : ByteArray) (wk : Bool) (o : Bool) (k i a s : Int) (hn : n.size ≤ maxLen) (hv : v.size ≤ maxLen) (bn : nameS n = true) (be : v.toList.isEmpty = false) (bv : nameS v = true) (k1 : (1 : Int) ≤ k) (k3 : ¬ ((k : Int) ≤ 3)) (w : World) :
    Calls Try.prog 20 #[.agg #[.string n, .string v, .bool o, .int .i64 k, .bool wk, .int .i64 i, .bool true, .int .i64 a, .int .i64 s]] w fun e w' => e = .returned (.int .i64 70) ∧ Below w.heap.size w w' := by
  have N := Lib.hid (fun w : World => (name_any n hn w).mono fun e w' hh => by rw [bn] at hh; exact hh)
  have V := Lib.hid (fun w : World => (name_any v hv w).mono fun e w' hh => by rw [bv] at hh; exact hh)
  clear bn bv hn hv
  go_enter Try.func20, Try.ntmps20
  go_wp2_with fail
  refine (N.out _).mono ?_
  rintro e w1 ⟨rfl, hb1⟩
  have r1 := row_new hb1
  have g1 := below_box hb1
  have l1 : w.heap.size < w1.heap.size := by have := hb1.size; simp at this; omega
  clear hb1
  go_wp2_with fail
  refine (V.out _).mono ?_
  rintro e w2 ⟨rfl, hb2⟩
  have r2 := row_stay hb2 r1 l1
  have g2 := g1.trans (hb2.mono g1.size)
  clear hb2 r1
  go_wp2
  go_ret
  exact ⟨rfl, g2⟩

set_option maxHeartbeats 1000000 in
theorem right_i0_n_true (n v : ByteArray) (wk : Bool) (o : Bool) (k i a s : Int) (hn : n.size ≤ maxLen) (hv : v.size ≤ maxLen) (bn : nameS n = true) (be : v.toList.isEmpty = false) (bv : nameS v = true) (k1 : (1 : Int) ≤ k) (k3 : (k : Int) ≤ 3) (i0 : ¬ ((0 : Int) ≤ i)) (w : World) :
    Calls Try.prog 20 #[.agg #[.string n, .string v, .bool o, .int .i64 k, .bool wk, .int .i64 i, .bool true, .int .i64 a, .int .i64 s]] w fun e w' => e = .returned (.int .i64 70) ∧ Below w.heap.size w w' := by
  have N := Lib.hid (fun w : World => (name_any n hn w).mono fun e w' hh => by rw [bn] at hh; exact hh)
  have V := Lib.hid (fun w : World => (name_any v hv w).mono fun e w' hh => by rw [bv] at hh; exact hh)
  clear bn bv hn hv
  go_enter Try.func20, Try.ntmps20
  go_wp2_with fail
  refine (N.out _).mono ?_
  rintro e w1 ⟨rfl, hb1⟩
  have r1 := row_new hb1
  have g1 := below_box hb1
  have l1 : w.heap.size < w1.heap.size := by have := hb1.size; simp at this; omega
  clear hb1
  go_wp2_with fail
  refine (V.out _).mono ?_
  rintro e w2 ⟨rfl, hb2⟩
  have r2 := row_stay hb2 r1 l1
  have g2 := g1.trans (hb2.mono g1.size)
  clear hb2 r1
  go_wp2
  go_ret
  exact ⟨rfl, g2⟩

set_option maxHeartbeats 1000000 in
theorem right_i2_n_true (n v : ByteArray) (wk : Bool) (o : Bool) (k i a s : Int) (hn : n.size ≤ maxLen) (hv : v.size ≤ maxLen) (bn : nameS n = true) (be : v.toList.isEmpty = false) (bv : nameS v = true) (k1 : (1 : Int) ≤ k) (k3 : (k : Int) ≤ 3) (i0 : (0 : Int) ≤ i) (i2 : ¬ ((i : Int) ≤ 2)) (w : World) :
    Calls Try.prog 20 #[.agg #[.string n, .string v, .bool o, .int .i64 k, .bool wk, .int .i64 i, .bool true, .int .i64 a, .int .i64 s]] w fun e w' => e = .returned (.int .i64 70) ∧ Below w.heap.size w w' := by
  have N := Lib.hid (fun w : World => (name_any n hn w).mono fun e w' hh => by rw [bn] at hh; exact hh)
  have V := Lib.hid (fun w : World => (name_any v hv w).mono fun e w' hh => by rw [bv] at hh; exact hh)
  clear bn bv hn hv
  go_enter Try.func20, Try.ntmps20
  go_wp2_with fail
  refine (N.out _).mono ?_
  rintro e w1 ⟨rfl, hb1⟩
  have r1 := row_new hb1
  have g1 := below_box hb1
  have l1 : w.heap.size < w1.heap.size := by have := hb1.size; simp at this; omega
  clear hb1
  go_wp2_with fail
  refine (V.out _).mono ?_
  rintro e w2 ⟨rfl, hb2⟩
  have r2 := row_stay hb2 r1 l1
  have g2 := g1.trans (hb2.mono g1.size)
  clear hb2 r1
  go_wp2
  go_ret
  exact ⟨rfl, g2⟩

set_option maxHeartbeats 1000000 in
theorem right_a0_n_true (n v : ByteArray) (wk : Bool) (o : Bool) (k i a s : Int) (hn : n.size ≤ maxLen) (hv : v.size ≤ maxLen) (bn : nameS n = true) (be : v.toList.isEmpty = false) (bv : nameS v = true) (k1 : (1 : Int) ≤ k) (k3 : (k : Int) ≤ 3) (i0 : (0 : Int) ≤ i) (i2 : (i : Int) ≤ 2) (a0 : ¬ ((0 : Int) ≤ a)) (w : World) :
    Calls Try.prog 20 #[.agg #[.string n, .string v, .bool o, .int .i64 k, .bool wk, .int .i64 i, .bool true, .int .i64 a, .int .i64 s]] w fun e w' => e = .returned (.int .i64 70) ∧ Below w.heap.size w w' := by
  have N := Lib.hid (fun w : World => (name_any n hn w).mono fun e w' hh => by rw [bn] at hh; exact hh)
  have V := Lib.hid (fun w : World => (name_any v hv w).mono fun e w' hh => by rw [bv] at hh; exact hh)
  clear bn bv hn hv
  go_enter Try.func20, Try.ntmps20
  go_wp2_with fail
  refine (N.out _).mono ?_
  rintro e w1 ⟨rfl, hb1⟩
  have r1 := row_new hb1
  have g1 := below_box hb1
  have l1 : w.heap.size < w1.heap.size := by have := hb1.size; simp at this; omega
  clear hb1
  go_wp2_with fail
  refine (V.out _).mono ?_
  rintro e w2 ⟨rfl, hb2⟩
  have r2 := row_stay hb2 r1 l1
  have g2 := g1.trans (hb2.mono g1.size)
  clear hb2 r1
  go_wp2
  go_ret
  exact ⟨rfl, g2⟩

set_option maxHeartbeats 1000000 in
theorem right_s0_n_true (n v : ByteArray) (wk : Bool) (o : Bool) (k i a s : Int) (hn : n.size ≤ maxLen) (hv : v.size ≤ maxLen) (bn : nameS n = true) (be : v.toList.isEmpty = false) (bv : nameS v = true) (k1 : (1 : Int) ≤ k) (k3 : (k : Int) ≤ 3) (i0 : (0 : Int) ≤ i) (i2 : (i : Int) ≤ 2) (a0 : (0 : Int) ≤ a) (s0 : ¬ ((0 : Int) ≤ s)) (w : World) :
    Calls Try.prog 20 #[.agg #[.string n, .string v, .bool o, .int .i64 k, .bool wk, .int .i64 i, .bool true, .int .i64 a, .int .i64 s]] w fun e w' => e = .returned (.int .i64 70) ∧ Below w.heap.size w w' := by
  have N := Lib.hid (fun w : World => (name_any n hn w).mono fun e w' hh => by rw [bn] at hh; exact hh)
  have V := Lib.hid (fun w : World => (name_any v hv w).mono fun e w' hh => by rw [bv] at hh; exact hh)
  clear bn bv hn hv
  go_enter Try.func20, Try.ntmps20
  go_wp2_with fail
  refine (N.out _).mono ?_
  rintro e w1 ⟨rfl, hb1⟩
  have r1 := row_new hb1
  have g1 := below_box hb1
  have l1 : w.heap.size < w1.heap.size := by have := hb1.size; simp at this; omega
  clear hb1
  go_wp2_with fail
  refine (V.out _).mono ?_
  rintro e w2 ⟨rfl, hb2⟩
  have r2 := row_stay hb2 r1 l1
  have g2 := g1.trans (hb2.mono g1.size)
  clear hb2 r1
  go_wp2
  go_ret
  exact ⟨rfl, g2⟩

set_option maxHeartbeats 1000000 in
theorem right_dt_of_e (n v : ByteArray) (wk : Bool) (k i a s : Int) (hn : n.size ≤ maxLen) (hv : v.size ≤ maxLen) (bn : nameS n = true) (be : v.toList.isEmpty = true) (k1 : (1 : Int) ≤ k) (k3 : (k : Int) ≤ 3) (i0 : (0 : Int) ≤ i) (i2 : (i : Int) ≤ 2) (a0 : (0 : Int) ≤ a) (s0 : (0 : Int) ≤ s) (w : World) :
    Calls Try.prog 20 #[.agg #[.string n, .string v, .bool false, .int .i64 k, .bool wk, .int .i64 i, .bool true, .int .i64 a, .int .i64 s]] w fun e w' => e = .returned (.int .i64 0) ∧ Below w.heap.size w w' := by
  have N := Lib.hid (fun w : World => (name_any n hn w).mono fun e w' hh => by rw [bn] at hh; exact hh)
  clear bn hn hv
  go_enter Try.func20, Try.ntmps20
  go_wp2_with fail
  refine (N.out _).mono ?_
  rintro e w1 ⟨rfl, hb1⟩
  have r1 := row_new hb1
  have g1 := below_box hb1
  have l1 : w.heap.size < w1.heap.size := by have := hb1.size; simp at this; omega
  clear hb1
  go_wp2
  go_ret
  exact ⟨rfl, g1⟩

set_option maxHeartbeats 1000000 in
theorem right_dt_ot_e (n v : ByteArray) (wk : Bool) (k i a s : Int) (hn : n.size ≤ maxLen) (hv : v.size ≤ maxLen) (bn : nameS n = true) (be : v.toList.isEmpty = true) (k1 : (1 : Int) ≤ k) (k3 : (k : Int) ≤ 3) (i0 : (0 : Int) ≤ i) (i2 : (i : Int) ≤ 2) (a0 : (0 : Int) ≤ a) (s0 : (0 : Int) ≤ s) (w : World) :
    Calls Try.prog 20 #[.agg #[.string n, .string v, .bool true, .int .i64 k, .bool wk, .int .i64 i, .bool true, .int .i64 a, .int .i64 s]] w fun e w' => e = .returned (.int .i64 70) ∧ Below w.heap.size w w' := by
  have N := Lib.hid (fun w : World => (name_any n hn w).mono fun e w' hh => by rw [bn] at hh; exact hh)
  clear bn hn hv
  go_enter Try.func20, Try.ntmps20
  go_wp2_with fail
  refine (N.out _).mono ?_
  rintro e w1 ⟨rfl, hb1⟩
  have r1 := row_new hb1
  have g1 := below_box hb1
  have l1 : w.heap.size < w1.heap.size := by have := hb1.size; simp at this; omega
  clear hb1
  go_wp2
  go_ret
  exact ⟨rfl, g1⟩

set_option maxHeartbeats 1000000 in
theorem right_df_ot_e (n v : ByteArray) (wk : Bool) (k i a s : Int) (hn : n.size ≤ maxLen) (hv : v.size ≤ maxLen) (bn : nameS n = true) (be : v.toList.isEmpty = true) (k1 : (1 : Int) ≤ k) (k3 : (k : Int) ≤ 3) (i0 : (0 : Int) ≤ i) (i2 : (i : Int) ≤ 2) (a0 : (0 : Int) ≤ a) (s0 : (0 : Int) ≤ s) (w : World) :
    Calls Try.prog 20 #[.agg #[.string n, .string v, .bool true, .int .i64 k, .bool wk, .int .i64 i, .bool false, .int .i64 a, .int .i64 s]] w fun e w' => e = .returned (.int .i64 70) ∧ Below w.heap.size w w' := by
  have N := Lib.hid (fun w : World => (name_any n hn w).mono fun e w' hh => by rw [bn] at hh; exact hh)
  clear bn hn hv
  go_enter Try.func20, Try.ntmps20
  go_wp2_with fail
  refine (N.out _).mono ?_
  rintro e w1 ⟨rfl, hb1⟩
  have r1 := row_new hb1
  have g1 := below_box hb1
  have l1 : w.heap.size < w1.heap.size := by have := hb1.size; simp at this; omega
  clear hb1
  go_wp2
  go_ret
  exact ⟨rfl, g1⟩

set_option maxHeartbeats 1000000 in
theorem right_df_i_e (n v : ByteArray) (wk : Bool) (k i a s : Int) (hn : n.size ≤ maxLen) (hv : v.size ≤ maxLen) (bn : nameS n = true) (be : v.toList.isEmpty = true) (k1 : (1 : Int) ≤ k) (k3 : (k : Int) ≤ 3) (i0 : (0 : Int) ≤ i) (i2 : (i : Int) ≤ 2) (a0 : (0 : Int) ≤ a) (s0 : (0 : Int) ≤ s) (zi : (i == (0 : Int)) = false) (w : World) :
    Calls Try.prog 20 #[.agg #[.string n, .string v, .bool false, .int .i64 k, .bool wk, .int .i64 i, .bool false, .int .i64 a, .int .i64 s]] w fun e w' => e = .returned (.int .i64 70) ∧ Below w.heap.size w w' := by
  have N := Lib.hid (fun w : World => (name_any n hn w).mono fun e w' hh => by rw [bn] at hh; exact hh)
  clear bn hn hv
  go_enter Try.func20, Try.ntmps20
  go_wp2_with fail
  refine (N.out _).mono ?_
  rintro e w1 ⟨rfl, hb1⟩
  have r1 := row_new hb1
  have g1 := below_box hb1
  have l1 : w.heap.size < w1.heap.size := by have := hb1.size; simp at this; omega
  clear hb1
  go_wp2
  go_ret
  exact ⟨rfl, g1⟩

set_option maxHeartbeats 1000000 in
theorem right_df_a_e (n v : ByteArray) (wk : Bool) (k i a s : Int) (hn : n.size ≤ maxLen) (hv : v.size ≤ maxLen) (bn : nameS n = true) (be : v.toList.isEmpty = true) (k1 : (1 : Int) ≤ k) (k3 : (k : Int) ≤ 3) (i0 : (0 : Int) ≤ i) (i2 : (i : Int) ≤ 2) (a0 : (0 : Int) ≤ a) (s0 : (0 : Int) ≤ s) (zi : (i == (0 : Int)) = true) (za : (a == (0 : Int)) = false) (w : World) :
    Calls Try.prog 20 #[.agg #[.string n, .string v, .bool false, .int .i64 k, .bool wk, .int .i64 i, .bool false, .int .i64 a, .int .i64 s]] w fun e w' => e = .returned (.int .i64 70) ∧ Below w.heap.size w w' := by
  have N := Lib.hid (fun w : World => (name_any n hn w).mono fun e w' hh => by rw [bn] at hh; exact hh)
  clear bn hn hv
  go_enter Try.func20, Try.ntmps20
  go_wp2_with fail
  refine (N.out _).mono ?_
  rintro e w1 ⟨rfl, hb1⟩
  have r1 := row_new hb1
  have g1 := below_box hb1
  have l1 : w.heap.size < w1.heap.size := by have := hb1.size; simp at this; omega
  clear hb1
  go_wp2
  go_ret
  exact ⟨rfl, g1⟩

set_option maxHeartbeats 1000000 in
theorem right_df_s_e (n v : ByteArray) (wk : Bool) (k i a s : Int) (hn : n.size ≤ maxLen) (hv : v.size ≤ maxLen) (bn : nameS n = true) (be : v.toList.isEmpty = true) (k1 : (1 : Int) ≤ k) (k3 : (k : Int) ≤ 3) (i0 : (0 : Int) ≤ i) (i2 : (i : Int) ≤ 2) (a0 : (0 : Int) ≤ a) (s0 : (0 : Int) ≤ s) (zi : (i == (0 : Int)) = true) (za : (a == (0 : Int)) = true) (zs : (s == (0 : Int)) = false) (w : World) :
    Calls Try.prog 20 #[.agg #[.string n, .string v, .bool false, .int .i64 k, .bool wk, .int .i64 i, .bool false, .int .i64 a, .int .i64 s]] w fun e w' => e = .returned (.int .i64 70) ∧ Below w.heap.size w w' := by
  have N := Lib.hid (fun w : World => (name_any n hn w).mono fun e w' hh => by rw [bn] at hh; exact hh)
  clear bn hn hv
  go_enter Try.func20, Try.ntmps20
  go_wp2_with fail
  refine (N.out _).mono ?_
  rintro e w1 ⟨rfl, hb1⟩
  have r1 := row_new hb1
  have g1 := below_box hb1
  have l1 : w.heap.size < w1.heap.size := by have := hb1.size; simp at this; omega
  clear hb1
  go_wp2
  go_ret
  exact ⟨rfl, g1⟩

set_option maxHeartbeats 1000000 in
theorem right_df_ok_e (n v : ByteArray) (wk : Bool) (k i a s : Int) (hn : n.size ≤ maxLen) (hv : v.size ≤ maxLen) (bn : nameS n = true) (be : v.toList.isEmpty = true) (k1 : (1 : Int) ≤ k) (k3 : (k : Int) ≤ 3) (i0 : (0 : Int) ≤ i) (i2 : (i : Int) ≤ 2) (a0 : (0 : Int) ≤ a) (s0 : (0 : Int) ≤ s) (zi : (i == (0 : Int)) = true) (za : (a == (0 : Int)) = true) (zs : (s == (0 : Int)) = true) (w : World) :
    Calls Try.prog 20 #[.agg #[.string n, .string v, .bool false, .int .i64 k, .bool wk, .int .i64 i, .bool false, .int .i64 a, .int .i64 s]] w fun e w' => e = .returned (.int .i64 0) ∧ Below w.heap.size w w' := by
  have N := Lib.hid (fun w : World => (name_any n hn w).mono fun e w' hh => by rw [bn] at hh; exact hh)
  clear bn hn hv
  go_enter Try.func20, Try.ntmps20
  go_wp2_with fail
  refine (N.out _).mono ?_
  rintro e w1 ⟨rfl, hb1⟩
  have r1 := row_new hb1
  have g1 := below_box hb1
  have l1 : w.heap.size < w1.heap.size := by have := hb1.size; simp at this; omega
  clear hb1
  go_wp2
  go_ret
  exact ⟨rfl, g1⟩

set_option maxHeartbeats 1000000 in
theorem right_dt_of_n (n v : ByteArray) (wk : Bool) (k i a s : Int) (hn : n.size ≤ maxLen) (hv : v.size ≤ maxLen) (bn : nameS n = true) (be : v.toList.isEmpty = false) (bv : nameS v = true) (k1 : (1 : Int) ≤ k) (k3 : (k : Int) ≤ 3) (i0 : (0 : Int) ≤ i) (i2 : (i : Int) ≤ 2) (a0 : (0 : Int) ≤ a) (s0 : (0 : Int) ≤ s) (w : World) :
    Calls Try.prog 20 #[.agg #[.string n, .string v, .bool false, .int .i64 k, .bool wk, .int .i64 i, .bool true, .int .i64 a, .int .i64 s]] w fun e w' => e = .returned (.int .i64 0) ∧ Below w.heap.size w w' := by
  have N := Lib.hid (fun w : World => (name_any n hn w).mono fun e w' hh => by rw [bn] at hh; exact hh)
  have V := Lib.hid (fun w : World => (name_any v hv w).mono fun e w' hh => by rw [bv] at hh; exact hh)
  clear bn bv hn hv
  go_enter Try.func20, Try.ntmps20
  go_wp2_with fail
  refine (N.out _).mono ?_
  rintro e w1 ⟨rfl, hb1⟩
  have r1 := row_new hb1
  have g1 := below_box hb1
  have l1 : w.heap.size < w1.heap.size := by have := hb1.size; simp at this; omega
  clear hb1
  go_wp2_with fail
  refine (V.out _).mono ?_
  rintro e w2 ⟨rfl, hb2⟩
  have r2 := row_stay hb2 r1 l1
  have g2 := g1.trans (hb2.mono g1.size)
  clear hb2 r1
  go_wp2
  go_ret
  exact ⟨rfl, g2⟩

set_option maxHeartbeats 1000000 in
theorem right_dt_ot_n (n v : ByteArray) (wk : Bool) (k i a s : Int) (hn : n.size ≤ maxLen) (hv : v.size ≤ maxLen) (bn : nameS n = true) (be : v.toList.isEmpty = false) (bv : nameS v = true) (k1 : (1 : Int) ≤ k) (k3 : (k : Int) ≤ 3) (i0 : (0 : Int) ≤ i) (i2 : (i : Int) ≤ 2) (a0 : (0 : Int) ≤ a) (s0 : (0 : Int) ≤ s) (w : World) :
    Calls Try.prog 20 #[.agg #[.string n, .string v, .bool true, .int .i64 k, .bool wk, .int .i64 i, .bool true, .int .i64 a, .int .i64 s]] w fun e w' => e = .returned (.int .i64 0) ∧ Below w.heap.size w w' := by
  have N := Lib.hid (fun w : World => (name_any n hn w).mono fun e w' hh => by rw [bn] at hh; exact hh)
  have V := Lib.hid (fun w : World => (name_any v hv w).mono fun e w' hh => by rw [bv] at hh; exact hh)
  clear bn bv hn hv
  go_enter Try.func20, Try.ntmps20
  go_wp2_with fail
  refine (N.out _).mono ?_
  rintro e w1 ⟨rfl, hb1⟩
  have r1 := row_new hb1
  have g1 := below_box hb1
  have l1 : w.heap.size < w1.heap.size := by have := hb1.size; simp at this; omega
  clear hb1
  go_wp2_with fail
  refine (V.out _).mono ?_
  rintro e w2 ⟨rfl, hb2⟩
  have r2 := row_stay hb2 r1 l1
  have g2 := g1.trans (hb2.mono g1.size)
  clear hb2 r1
  go_wp2
  go_ret
  exact ⟨rfl, g2⟩

set_option maxHeartbeats 1000000 in
theorem right_df_ot_n (n v : ByteArray) (wk : Bool) (k i a s : Int) (hn : n.size ≤ maxLen) (hv : v.size ≤ maxLen) (bn : nameS n = true) (be : v.toList.isEmpty = false) (bv : nameS v = true) (k1 : (1 : Int) ≤ k) (k3 : (k : Int) ≤ 3) (i0 : (0 : Int) ≤ i) (i2 : (i : Int) ≤ 2) (a0 : (0 : Int) ≤ a) (s0 : (0 : Int) ≤ s) (w : World) :
    Calls Try.prog 20 #[.agg #[.string n, .string v, .bool true, .int .i64 k, .bool wk, .int .i64 i, .bool false, .int .i64 a, .int .i64 s]] w fun e w' => e = .returned (.int .i64 70) ∧ Below w.heap.size w w' := by
  have N := Lib.hid (fun w : World => (name_any n hn w).mono fun e w' hh => by rw [bn] at hh; exact hh)
  have V := Lib.hid (fun w : World => (name_any v hv w).mono fun e w' hh => by rw [bv] at hh; exact hh)
  clear bn bv hn hv
  go_enter Try.func20, Try.ntmps20
  go_wp2_with fail
  refine (N.out _).mono ?_
  rintro e w1 ⟨rfl, hb1⟩
  have r1 := row_new hb1
  have g1 := below_box hb1
  have l1 : w.heap.size < w1.heap.size := by have := hb1.size; simp at this; omega
  clear hb1
  go_wp2_with fail
  refine (V.out _).mono ?_
  rintro e w2 ⟨rfl, hb2⟩
  have r2 := row_stay hb2 r1 l1
  have g2 := g1.trans (hb2.mono g1.size)
  clear hb2 r1
  go_wp2
  go_ret
  exact ⟨rfl, g2⟩

set_option maxHeartbeats 1000000 in
theorem right_df_i_n (n v : ByteArray) (wk : Bool) (k i a s : Int) (hn : n.size ≤ maxLen) (hv : v.size ≤ maxLen) (bn : nameS n = true) (be : v.toList.isEmpty = false) (bv : nameS v = true) (k1 : (1 : Int) ≤ k) (k3 : (k : Int) ≤ 3) (i0 : (0 : Int) ≤ i) (i2 : (i : Int) ≤ 2) (a0 : (0 : Int) ≤ a) (s0 : (0 : Int) ≤ s) (zi : (i == (0 : Int)) = false) (w : World) :
    Calls Try.prog 20 #[.agg #[.string n, .string v, .bool false, .int .i64 k, .bool wk, .int .i64 i, .bool false, .int .i64 a, .int .i64 s]] w fun e w' => e = .returned (.int .i64 70) ∧ Below w.heap.size w w' := by
  have N := Lib.hid (fun w : World => (name_any n hn w).mono fun e w' hh => by rw [bn] at hh; exact hh)
  have V := Lib.hid (fun w : World => (name_any v hv w).mono fun e w' hh => by rw [bv] at hh; exact hh)
  clear bn bv hn hv
  go_enter Try.func20, Try.ntmps20
  go_wp2_with fail
  refine (N.out _).mono ?_
  rintro e w1 ⟨rfl, hb1⟩
  have r1 := row_new hb1
  have g1 := below_box hb1
  have l1 : w.heap.size < w1.heap.size := by have := hb1.size; simp at this; omega
  clear hb1
  go_wp2_with fail
  refine (V.out _).mono ?_
  rintro e w2 ⟨rfl, hb2⟩
  have r2 := row_stay hb2 r1 l1
  have g2 := g1.trans (hb2.mono g1.size)
  clear hb2 r1
  go_wp2
  go_ret
  exact ⟨rfl, g2⟩

set_option maxHeartbeats 1000000 in
theorem right_df_a_n (n v : ByteArray) (wk : Bool) (k i a s : Int) (hn : n.size ≤ maxLen) (hv : v.size ≤ maxLen) (bn : nameS n = true) (be : v.toList.isEmpty = false) (bv : nameS v = true) (k1 : (1 : Int) ≤ k) (k3 : (k : Int) ≤ 3) (i0 : (0 : Int) ≤ i) (i2 : (i : Int) ≤ 2) (a0 : (0 : Int) ≤ a) (s0 : (0 : Int) ≤ s) (zi : (i == (0 : Int)) = true) (za : (a == (0 : Int)) = false) (w : World) :
    Calls Try.prog 20 #[.agg #[.string n, .string v, .bool false, .int .i64 k, .bool wk, .int .i64 i, .bool false, .int .i64 a, .int .i64 s]] w fun e w' => e = .returned (.int .i64 70) ∧ Below w.heap.size w w' := by
  have N := Lib.hid (fun w : World => (name_any n hn w).mono fun e w' hh => by rw [bn] at hh; exact hh)
  have V := Lib.hid (fun w : World => (name_any v hv w).mono fun e w' hh => by rw [bv] at hh; exact hh)
  clear bn bv hn hv
  go_enter Try.func20, Try.ntmps20
  go_wp2_with fail
  refine (N.out _).mono ?_
  rintro e w1 ⟨rfl, hb1⟩
  have r1 := row_new hb1
  have g1 := below_box hb1
  have l1 : w.heap.size < w1.heap.size := by have := hb1.size; simp at this; omega
  clear hb1
  go_wp2_with fail
  refine (V.out _).mono ?_
  rintro e w2 ⟨rfl, hb2⟩
  have r2 := row_stay hb2 r1 l1
  have g2 := g1.trans (hb2.mono g1.size)
  clear hb2 r1
  go_wp2
  go_ret
  exact ⟨rfl, g2⟩

set_option maxHeartbeats 1000000 in
theorem right_df_s_n (n v : ByteArray) (wk : Bool) (k i a s : Int) (hn : n.size ≤ maxLen) (hv : v.size ≤ maxLen) (bn : nameS n = true) (be : v.toList.isEmpty = false) (bv : nameS v = true) (k1 : (1 : Int) ≤ k) (k3 : (k : Int) ≤ 3) (i0 : (0 : Int) ≤ i) (i2 : (i : Int) ≤ 2) (a0 : (0 : Int) ≤ a) (s0 : (0 : Int) ≤ s) (zi : (i == (0 : Int)) = true) (za : (a == (0 : Int)) = true) (zs : (s == (0 : Int)) = false) (w : World) :
    Calls Try.prog 20 #[.agg #[.string n, .string v, .bool false, .int .i64 k, .bool wk, .int .i64 i, .bool false, .int .i64 a, .int .i64 s]] w fun e w' => e = .returned (.int .i64 70) ∧ Below w.heap.size w w' := by
  have N := Lib.hid (fun w : World => (name_any n hn w).mono fun e w' hh => by rw [bn] at hh; exact hh)
  have V := Lib.hid (fun w : World => (name_any v hv w).mono fun e w' hh => by rw [bv] at hh; exact hh)
  clear bn bv hn hv
  go_enter Try.func20, Try.ntmps20
  go_wp2_with fail
  refine (N.out _).mono ?_
  rintro e w1 ⟨rfl, hb1⟩
  have r1 := row_new hb1
  have g1 := below_box hb1
  have l1 : w.heap.size < w1.heap.size := by have := hb1.size; simp at this; omega
  clear hb1
  go_wp2_with fail
  refine (V.out _).mono ?_
  rintro e w2 ⟨rfl, hb2⟩
  have r2 := row_stay hb2 r1 l1
  have g2 := g1.trans (hb2.mono g1.size)
  clear hb2 r1
  go_wp2
  go_ret
  exact ⟨rfl, g2⟩

set_option maxHeartbeats 1000000 in
theorem right_df_ok_n (n v : ByteArray) (wk : Bool) (k i a s : Int) (hn : n.size ≤ maxLen) (hv : v.size ≤ maxLen) (bn : nameS n = true) (be : v.toList.isEmpty = false) (bv : nameS v = true) (k1 : (1 : Int) ≤ k) (k3 : (k : Int) ≤ 3) (i0 : (0 : Int) ≤ i) (i2 : (i : Int) ≤ 2) (a0 : (0 : Int) ≤ a) (s0 : (0 : Int) ≤ s) (zi : (i == (0 : Int)) = true) (za : (a == (0 : Int)) = true) (zs : (s == (0 : Int)) = true) (w : World) :
    Calls Try.prog 20 #[.agg #[.string n, .string v, .bool false, .int .i64 k, .bool wk, .int .i64 i, .bool false, .int .i64 a, .int .i64 s]] w fun e w' => e = .returned (.int .i64 0) ∧ Below w.heap.size w w' := by
  have N := Lib.hid (fun w : World => (name_any n hn w).mono fun e w' hh => by rw [bn] at hh; exact hh)
  have V := Lib.hid (fun w : World => (name_any v hv w).mono fun e w' hh => by rw [bv] at hh; exact hh)
  clear bn bv hn hv
  go_enter Try.func20, Try.ntmps20
  go_wp2_with fail
  refine (N.out _).mono ?_
  rintro e w1 ⟨rfl, hb1⟩
  have r1 := row_new hb1
  have g1 := below_box hb1
  have l1 : w.heap.size < w1.heap.size := by have := hb1.size; simp at this; omega
  clear hb1
  go_wp2_with fail
  refine (V.out _).mono ?_
  rintro e w2 ⟨rfl, hb2⟩
  have r2 := row_stay hb2 r1 l1
  have g2 := g1.trans (hb2.mono g1.size)
  clear hb2 r1
  go_wp2
  go_ret
  exact ⟨rfl, g2⟩

-- PATHS
end Go.Proofs.Ythajdklmklaelaa
