/-
  Layer 7: SymverReads's walk.
  Conditions: none. (My own text.)
-/
import Derived.Test.YthajdklmklaelaaSyzz
import Derived.Test.YthajdklmklaelaaSyh
namespace Go.Proofs.Ythajdklmklaelaa
open Go.RowKit
set_option linter.unusedVariables false
set_option linter.unusedSimpArgs false

set_option maxHeartbeats 2000000 in
theorem reads_walk (s : ByteArray) (hs : s.size ≤ maxLen) (d : Bool) (w : World) :
    Calls Try.prog 3 #[.string s, .bool d] w fun e w' => e = .returned (.bool true) ∧ Below w.heap.size w w' := by
  have A1 := Lib.hid awake_any
  obtain ⟨x0, x1, x2, x3, x4, x5, x6, x7, x8, hx⟩ : ∃ x0 x1 x2 x3 x4 x5 x6 x7 x8, resV d (parseS s d) = symV x0 x1 x2 x3 x4 x5 x6 x7 x8 := by
    cases parseS s d with
    | none => exact ⟨_, _, _, _, _, _, _, _, _, rfl⟩
    | some y => obtain ⟨n, v, o⟩ := y; exact ⟨_, _, _, _, _, _, _, _, _, rfl⟩
  have c1 := fun w : World => parse_any s hs d w
  have c2 := fun w : World => refParse_any s hs d w
  have c3 := fun w : World => name_any s hs w
  have c4 := fun w : World => refName_any s hs w
  rw [hx] at c1 c2
  generalize resE (parseS s d) = er at c1 c2
  generalize nameS s = ns at c3 c4
  unfold symV at c1 c2
  clear hx
  have C1 := Lib.hid c1; clear c1
  have C2 := Lib.hid c2; clear c2
  have C3 := Lib.hid c3; clear c3
  have C4 := Lib.hid c4; clear c4
  go_enter Try.func3, Try.ntmps3
  go_wp2_with fail
  refine (A1.out _).mono ?_
  rintro e w1 ⟨rfl, hb1⟩
  go_wp2_with fail
  refine (C1.out _).mono ?_
  rintro e w2 ⟨rfl, hb2⟩
  go_wp2_with fail
  refine (C2.out _).mono ?_
  rintro e w3 ⟨rfl, hb3⟩
  have r3 := row_new hb3
  have l3 : w2.heap.size < w3.heap.size := by have := hb3.size; simp at this; omega
  go_wp2_with fail
  refine (C3.out _).mono ?_
  rintro e w4 ⟨rfl, hb4⟩
  go_wp2_with fail
  refine (C4.out _).mono ?_
  rintro e w5 ⟨rfl, rfl⟩
  go_wp2
  go_ret
  have g2 : Below w.heap.size w w2 := hb1.trans (hb2.mono hb1.size)
  have g3 : Below w.heap.size w w3 := g2.trans ((below_box hb3).mono g2.size)
  exact ⟨by simp, g3.trans ((below_box hb4).mono g3.size)⟩
end Go.Proofs.Ythajdklmklaelaa
