/-
  Layer 7: clevislaw07.awake; SymverHidden's and SymverPlain's walks.
  Conditions: none. (My own text.)
-/
import Derived.Test.YthajdklmklaelaaSyq
import Derived.Test.YthajdklmklaelaaSym
import Derived.Test.YthajdklmklaelaaCalm
namespace Go.Proofs.Ythajdklmklaelaa
open Go.RowKit
set_option linter.unusedVariables false
set_option linter.unusedSimpArgs false

theorem p_a : parseS ⟨#[102, 64, 86, 49]⟩ true = some (⟨#[102]⟩, ⟨#[86, 49]⟩, true) := by decide +kernel
theorem p_b : parseS ⟨#[102, 64, 64, 86, 49]⟩ true = some (⟨#[102]⟩, ⟨#[86, 49]⟩, false) := by decide +kernel
theorem p_c : parseS ⟨#[102, 64, 64, 86, 49]⟩ false = none := by decide +kernel
theorem m_b : matchS ⟨#[102]⟩ ⟨#[]⟩ ⟨#[102]⟩ ⟨#[86, 49]⟩ false (seenS true 0) true = true := by decide +kernel
theorem m_a : matchS ⟨#[102]⟩ ⟨#[]⟩ ⟨#[102]⟩ ⟨#[86, 49]⟩ true (seenS true 0) true = false := by decide +kernel

set_option maxHeartbeats 2000000 in
theorem awake_any (w : World) : Calls Try.prog 10 #[] w fun e w' => e = .returned (.bool true) ∧ Below w.heap.size w w' := by
  have c1 : ∀ w, Calls Try.prog 11 #[.string ⟨#[102, 64, 86, 49]⟩, .bool true] w fun e w' => e = .returned (.tuple #[.agg #[.string ⟨#[102]⟩, .string ⟨#[86, 49]⟩, .bool true, .int .i64 0, .bool false, .int .i64 0, .bool true, .int .i64 0, .int .i64 0], .int .i64 0]) ∧ Below w.heap.size w w' :=
    fun w => (parse_any ⟨#[102, 64, 86, 49]⟩ (by decide +kernel) true w).mono fun e w' h => by rw [p_a] at h; exact h
  have c2 : ∀ w, Calls Try.prog 11 #[.string ⟨#[102, 64, 64, 86, 49]⟩, .bool true] w fun e w' => e = .returned (.tuple #[.agg #[.string ⟨#[102]⟩, .string ⟨#[86, 49]⟩, .bool false, .int .i64 0, .bool false, .int .i64 0, .bool true, .int .i64 0, .int .i64 0], .int .i64 0]) ∧ Below w.heap.size w w' :=
    fun w => (parse_any ⟨#[102, 64, 64, 86, 49]⟩ (by decide +kernel) true w).mono fun e w' h => by rw [p_b] at h; exact h
  have c3 : ∀ w, Calls Try.prog 11 #[.string ⟨#[102, 64, 64, 86, 49]⟩, .bool false] w fun e w' => e = .returned (.tuple #[.agg #[.string ⟨#[]⟩, .string ⟨#[]⟩, .bool false, .int .i64 0, .bool false, .int .i64 0, .bool false, .int .i64 0, .int .i64 0], .int .i64 70]) ∧ Below w.heap.size w w' :=
    fun w => (parse_any ⟨#[102, 64, 64, 86, 49]⟩ (by decide +kernel) false w).mono fun e w' h => by rw [p_c] at h; exact h
  have c4 : ∀ w, Calls Try.prog 15 #[.agg #[.string ⟨#[102]⟩, .string ⟨#[]⟩, .bool false, .int .i64 0, .bool false, .int .i64 0, .bool false, .int .i64 0, .int .i64 0], .agg #[.string ⟨#[102]⟩, .string ⟨#[86, 49]⟩, .bool false, .int .i64 0, .bool false, .int .i64 0, .bool true, .int .i64 0, .int .i64 0], .bool true] w fun e w' => e = .returned (.bool true) ∧ Below w.heap.size w w' :=
    fun w => (match_any ⟨#[102]⟩ ⟨#[]⟩ false false false 0 0 0 0 ⟨#[102]⟩ ⟨#[86, 49]⟩ false false true 0 0 0 0 true w).mono fun e w' h => by rw [m_b] at h; exact h
  have c5 : ∀ w, Calls Try.prog 15 #[.agg #[.string ⟨#[102]⟩, .string ⟨#[]⟩, .bool false, .int .i64 0, .bool false, .int .i64 0, .bool false, .int .i64 0, .int .i64 0], .agg #[.string ⟨#[102]⟩, .string ⟨#[86, 49]⟩, .bool true, .int .i64 0, .bool false, .int .i64 0, .bool true, .int .i64 0, .int .i64 0], .bool true] w fun e w' => e = .returned (.bool false) ∧ Below w.heap.size w w' :=
    fun w => (match_any ⟨#[102]⟩ ⟨#[]⟩ false false false 0 0 0 0 ⟨#[102]⟩ ⟨#[86, 49]⟩ true false true 0 0 0 0 true w).mono fun e w' h => by rw [m_a] at h; exact h
  have C1 := Lib.hid c1; clear c1
  have C2 := Lib.hid c2; clear c2
  have C3 := Lib.hid c3; clear c3
  have C4 := Lib.hid c4; clear c4
  have C5 := Lib.hid c5; clear c5
  go_enter Try.func10, Try.ntmps10
  go_wp2_with fail
  refine (C1.out _).mono ?_
  rintro e w1 ⟨rfl, hb1⟩
  go_wp2_with fail
  refine (C2.out _).mono ?_
  rintro e w2 ⟨rfl, hb2⟩
  have a2 := row_new hb2
  have la2 : w1.heap.size < w2.heap.size := by have := hb2.size; simp at this; omega
  go_wp2_with fail
  refine (C3.out _).mono ?_
  rintro e w3 ⟨rfl, hb3⟩
  have b3 := row_new hb3
  have a3 := row_box hb3 a2 la2
  have lb3 : w2.heap.size < w3.heap.size := by have := hb3.size; simp at this; omega
  have la3 : w1.heap.size < w3.heap.size := by omega
  clear a2
  go_wp2_with fail
  refine (C4.out _).mono ?_
  rintro e w4 ⟨rfl, hb4⟩
  have a4 := row_box hb4 a3 la3
  have la4 : w1.heap.size < w4.heap.size := by have := hb4.size; simp at this; omega
  clear b3 a3
  go_wp2_with fail
  refine (C5.out _).mono ?_
  rintro e w5 ⟨rfl, hb5⟩
  go_wp2
  go_ret
  refine ⟨rfl, ?_⟩
  have g2 : Below w.heap.size w w2 := hb1.trans ((below_box hb2).mono hb1.size)
  have g3 : Below w.heap.size w w3 := g2.trans ((below_box hb3).mono g2.size)
  have g4 : Below w.heap.size w w4 := g3.trans ((below_box hb4).mono g3.size)
  exact g4.trans (hb5.mono g4.size)
end Go.Proofs.Ythajdklmklaelaa
