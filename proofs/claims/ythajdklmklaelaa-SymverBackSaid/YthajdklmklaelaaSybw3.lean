/-
  Layer 7: SymverBack's walk, a wrong symbol.
  Conditions: none. (My own text.)
-/
import Derived.Test.YthajdklmklaelaaSybw
namespace Go.Proofs.Ythajdklmklaelaa
open Go.RowKit
set_option linter.unusedVariables false
set_option linter.unusedSimpArgs false

set_option maxHeartbeats 400000 in
theorem back_walk_no_none (n v : ByteArray) (o wk d : Bool) (k i a s : Int) (hn : n.size ≤ 140737488351232) (hv : v.size ≤ 140737488351232) (t : ByteArray) (ht : t.size ≤ 140737488351232) (d2 : Bool) (hr : rightS n v o d k i a s = false) (hp : parseS t d2 = none) (w : World) :
    Calls Try.prog 9 #[.agg #[.string n, .string v, .bool o, .int .i64 k, .bool wk, .int .i64 i, .bool d, .int .i64 a, .int .i64 s], .string t, .bool d2] w fun e w' => e = .returned (.bool true) ∧ Below w.heap.size w w' := by
  have A1 := Lib.hid awake_any
  have ln : n.size ≤ maxLen := by unfold maxLen; omega
  have lv : v.size ≤ maxLen := by unfold maxLen; omega
  have c0 := fun w : World => right_any n v o wk d k i a s ln lv w
  rw [hr] at c0
  simp only [Bool.false_eq_true, if_false] at c0
  have lt : t.size ≤ maxLen := by unfold maxLen; omega
  have c4 := fun w : World => parse_any t lt d2 w
  rw [hp] at c4
  simp only [resV, resE, symV] at c4
  have C4 := Lib.hid c4; clear c4
  clear hr ln lv hn hv lt hp ht
  have C0 := Lib.hid c0; clear c0
  go_enter Try.func9, Try.ntmps9
  go_wp2_with fail
  refine (A1.out _).mono ?_
  rintro e w1 ⟨rfl, hb1⟩
  have r1 := row_new hb1
  have l1 : w.heap.size < w1.heap.size := by have := hb1.size; simp at this; omega
  have g1 := below_box hb1
  clear hb1
  go_wp2_with fail
  refine (C0.out _).mono ?_
  rintro e w2 ⟨rfl, hb2⟩
  have r2 := row_stay hb2 r1 l1
  have g2 := g1.trans (hb2.mono g1.size)
  have l2 : w.heap.size < w2.heap.size := Nat.lt_of_lt_of_le l1 hb2.size
  clear r1 hb2
  go_wp2_with fail
  have R : Rowed w.heap.size _ w w2 := ⟨r2, l2, g2⟩
  clear r2 g2 l2
  have hR := R
  refine (C4.out _).mono ?_
  rintro e w5 ⟨rfl, hb5⟩
  have g5 := hR.2.2.trans (hb5.mono (Nat.le_of_lt hR.2.1))
  have l5 : w.heap.size < w5.heap.size := Nat.lt_of_lt_of_le hR.2.1 hb5.size
  clear hR hb5 R
  go_wp2
  go_ret
  exact ⟨by simp, g5.alloc (Nat.le_of_lt l5) _⟩
set_option maxHeartbeats 1000000 in
theorem back_walk_no_some (n v : ByteArray) (o wk d : Bool) (k i a s : Int) (hn : n.size ≤ 140737488351232) (hv : v.size ≤ 140737488351232) (t : ByteArray) (ht : t.size ≤ 140737488351232) (d2 : Bool) (hr : rightS n v o d k i a s = false) (n2 v2 : ByteArray) (o2 : Bool) (hp : parseS t d2 = some (n2, v2, o2)) (w : World) :
    Calls Try.prog 9 #[.agg #[.string n, .string v, .bool o, .int .i64 k, .bool wk, .int .i64 i, .bool d, .int .i64 a, .int .i64 s], .string t, .bool d2] w fun e w' => e = .returned (.bool true) ∧ Below w.heap.size w w' := by
  have A1 := Lib.hid awake_any
  have ln : n.size ≤ maxLen := by unfold maxLen; omega
  have lv : v.size ≤ maxLen := by unfold maxLen; omega
  have c0 := fun w : World => right_any n v o wk d k i a s ln lv w
  rw [hr] at c0
  simp only [Bool.false_eq_true, if_false] at c0
  have lt : t.size ≤ maxLen := by unfold maxLen; omega
  have c4 := fun w : World => parse_any t lt d2 w
  rw [hp] at c4
  simp only [resV, resE, symV] at c4
  have C4 := Lib.hid c4; clear c4
  obtain ⟨fp, fn, fv⟩ := form_back t n2 v2 o2 d2 hp
  have z2 := parse_sizes t n2 v2 o2 d2 hp
  have c5 := fun w : World => print_any n2 v2 o2 false d2 0 0 0 0 (by omega) (by omega) w
  rw [fp] at c5
  have c6 := fun w : World => name_any n2 (by unfold maxLen; omega) w
  rw [fn] at c6
  have c7 := fun w : World => name_any v2 (by unfold maxLen; omega) w
  have C5 := Lib.hid c5; clear c5
  have C6 := Lib.hid c6; clear c6
  have C7 := Lib.hid c7; clear c7
  have FV := Lib.hid fv; clear fv
  clear fp fn z2
  clear hr ln lv hn hv lt hp ht
  have C0 := Lib.hid c0; clear c0
  go_enter Try.func9, Try.ntmps9
  go_wp2_with fail
  refine (A1.out _).mono ?_
  rintro e w1 ⟨rfl, hb1⟩
  have r1 := row_new hb1
  have l1 : w.heap.size < w1.heap.size := by have := hb1.size; simp at this; omega
  have g1 := below_box hb1
  clear hb1
  go_wp2_with fail
  refine (C0.out _).mono ?_
  rintro e w2 ⟨rfl, hb2⟩
  have r2 := row_stay hb2 r1 l1
  have g2 := g1.trans (hb2.mono g1.size)
  have l2 : w.heap.size < w2.heap.size := Nat.lt_of_lt_of_le l1 hb2.size
  clear r1 hb2
  go_wp2_with fail
  have R : Rowed w.heap.size _ w w2 := ⟨r2, l2, g2⟩
  clear r2 g2 l2
  have hR := R
  refine (C4.out _).mono ?_
  rintro e w5 ⟨rfl, hb5⟩
  have g5 := hR.2.2.trans (hb5.mono (Nat.le_of_lt hR.2.1))
  have l5 : w.heap.size < w5.heap.size := Nat.lt_of_lt_of_le hR.2.1 hb5.size
  clear hR hb5 R
  go_wp2_with fail
  have r1 : ∀ k_ : Nat, (w5.alloc (.cells #[.string n2, .string v2, .bool o2, .int .i64 0, .bool false, .int .i64 0, .bool d2, .int .i64 0, .int .i64 0] 26)).cell? ⟨w5.heap.size, k_, none⟩ = (#[.string n2, .string v2, .bool o2, .int .i64 0, .bool false, .int .i64 0, .bool d2, .int .i64 0, .int .i64 0] : Array Value)[k_]? := fun k_ => World.cell?_alloc_at _ _ _ _ rfl
  have hb0 := g5.alloc (Nat.le_of_lt l5) (.cells #[.string n2, .string v2, .bool o2, .int .i64 0, .bool false, .int .i64 0, .bool d2, .int .i64 0, .int .i64 0] 26)
  have hz : w5.heap.size < (w5.alloc (.cells #[.string n2, .string v2, .bool o2, .int .i64 0, .bool false, .int .i64 0, .bool d2, .int .i64 0, .int .i64 0] 26)).heap.size := by simp
  generalize (w5.alloc (.cells #[.string n2, .string v2, .bool o2, .int .i64 0, .bool false, .int .i64 0, .bool d2, .int .i64 0, .int .i64 0] 26)) = w6 at r1 hb0 hz ⊢
  clear g5 l5
  refine (C5.out _).mono ?_
  rintro e w7 ⟨rfl, hb7⟩
  have r7 := row_stay hb7 r1 hz
  have l7 : w5.heap.size < w7.heap.size := Nat.lt_of_lt_of_le hz hb7.size
  have g7 := hb0.trans (hb7.mono hb0.size)
  clear r1 hz hb0 hb7
  go_wp2_with fail
  refine (C6.out _).mono ?_
  rintro e w8 ⟨rfl, hb8⟩
  have r8 := row_stay hb8 r7 l7
  have g8 := g7.trans (hb8.mono g7.size)
  clear r7 l7 g7 hb8
  rcases FV.out with fv | fv
  · go_wp2
    go_ret
    exact ⟨by simp, g8⟩
  · have fe := not_empty fv
    rw [fv] at C7
    clear fv
    go_wp2_with fail
    refine (C7.out _).mono ?_
    rintro e w9 ⟨rfl, hb9⟩
    have g9 := g8.trans (hb9.mono g8.size)
    clear g8 hb9
    go_wp2
    go_ret
    exact ⟨by simp, g9⟩
end Go.Proofs.Ythajdklmklaelaa
