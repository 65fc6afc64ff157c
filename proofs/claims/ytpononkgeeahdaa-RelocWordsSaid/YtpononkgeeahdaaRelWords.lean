/-
  RelWords: the statement, out of its walk.
  Conditions: none. (My own text.)
-/
import Derived.Test.YtpononkgeeahdaaOpen
import Derived.Test.YtpononkgeeahdaaRel3
namespace Go.Proofs.Ytpononkgeeahdaa
open Go.ChangeShapes Go.WideShapes Go.ChangeAt Go.RowKit Go.Deep
set_option linter.unusedVariables false
set_option linter.unusedSimpArgs false

/-! ### RelocWords -/
namespace relocWords
set_option maxRecDepth 100000 in
theorem lifted (os : Os) (started : os.Started) (H : Type) (enc : TypeId × Value → H) :
    ReturnsInHanded {} Try.checked os 3 .any (Rows.relocWordsSpec.pre6 enc Try.prog Try.f3 Rows.relocWordsRow.domain false) (Rows.relocWordsSpec.post enc Try.prog Try.f3 false true false false) := by
  refine law_lift (tb := 4) started (by kernel_rfl) Try.func3
    (ChangeSpec.witness6 (enc := enc) (C := Try.checked) false ⟨#[], #[.agg #[.int .i64 0, .int .i64 0, .int .i64 0, .int .i64 0], .agg #[.int .i64 0, .int .i64 0, .int .i64 0, .int .i64 0, .int .i64 0, .int .i64 0, .bool false, .bool false]], []⟩ 8 (by kernel_rfl) (by kernel_rfl) (by kernel_rfl) (by kernel_rfl))
    (by kernel_rfl) rfl Try.underlying4 rfl (fun ds h => match ds, h with | [_, _], _ => rfl) ?_
  intro W base args ds gs before hval hW hwt hsh
  have hW' := hW
  obtain ⟨p, q, hA0, hV, rfl, hfz, hnd⟩ := hW
  have hA : DataW.TrodAll enc Try.prog W 0 (fun _ => true) true Try.f3.params.toList args.toList ds p := hA0
  rw [Try.params3] at hA hval
  obtain ⟨v0, vs0, d0, ds0, p0, q0, hargs, rfl, rfl, h0, r0⟩ := trodAll_cons hA
  obtain ⟨v1, vs1, d1, ds1, p1, q1, rfl, rfl, rfl, h1, r1⟩ := trodAll_cons r0
  obtain ⟨rfl, rfl, rfl⟩ := trodAll_nil r1
  obtain rfl : args = #[v0, v1] := by cases args; simp_all
  obtain ⟨cs0, rfl, hl0, hf0⟩ := open_ones Try.underlying24 (by kernel_rfl) (by kernel_rfl) (hval 0 24 v0 rfl rfl) h0
  match cs0, hl0 with
  | [a0, a1, a2, a3], _ =>
  obtain ⟨na0, ya0, ea0⟩ := hf0 0 _ _ rfl rfl
  obtain ⟨xa0, rfl, wa0⟩ := int_cell Try.underlying3 ea0
  obtain ⟨na1, ya1, ea1⟩ := hf0 1 _ _ rfl rfl
  obtain ⟨xa1, rfl, wa1⟩ := int_cell Try.underlying22 ea1
  obtain ⟨na2, ya2, ea2⟩ := hf0 2 _ _ rfl rfl
  obtain ⟨xa2, rfl, wa2⟩ := int_cell Try.underlying3 ea2
  obtain ⟨na3, ya3, ea3⟩ := hf0 3 _ _ rfl rfl
  obtain ⟨xa3, rfl, wa3⟩ := int_cell Try.underlying3 ea3
  obtain ⟨cs1, rfl, hl1, hf1⟩ := open_ones Try.underlying26 (by kernel_rfl) (by kernel_rfl) (hval 1 26 v1 rfl rfl) h1
  match cs1, hl1 with
  | [b0, b1, b2, b3, b4, b5, b6, b7], _ =>
  obtain ⟨nb0, yb0, eb0⟩ := hf1 0 _ _ rfl rfl
  obtain ⟨xb0, rfl, wb0⟩ := int_cell Try.underlying3 eb0
  obtain ⟨nb1, yb1, eb1⟩ := hf1 1 _ _ rfl rfl
  obtain ⟨xb1, rfl, wb1⟩ := int_cell Try.underlying3 eb1
  obtain ⟨nb2, yb2, eb2⟩ := hf1 2 _ _ rfl rfl
  obtain ⟨xb2, rfl, wb2⟩ := int_cell Try.underlying3 eb2
  obtain ⟨nb3, yb3, eb3⟩ := hf1 3 _ _ rfl rfl
  obtain ⟨xb3, rfl, wb3⟩ := int_cell Try.underlying3 eb3
  obtain ⟨nb4, yb4, eb4⟩ := hf1 4 _ _ rfl rfl
  obtain ⟨xb4, rfl, wb4⟩ := int_cell Try.underlying3 eb4
  obtain ⟨nb5, yb5, eb5⟩ := hf1 5 _ _ rfl rfl
  obtain ⟨xb5, rfl, wb5⟩ := int_cell Try.underlying3 eb5
  obtain ⟨nb6, yb6, eb6⟩ := hf1 6 _ _ rfl rfl
  obtain ⟨xb6, rfl⟩ := bool_cell Try.underlying4 eb6
  obtain ⟨nb7, yb7, eb7⟩ := hf1 7 _ _ rfl rfl
  obtain ⟨xb7, rfl⟩ := bool_cell Try.underlying4 eb7
  exact words_walk xa0 xa1 xa2 xa3 xb0 xb1 xb2 xb3 xb4 xb5 xb6 xb7 W

theorem over : Rows.relocWordsRow.holds Try.pinned (OpenSpec.ofChange Rows.relocWordsSpec) :=
  OpenClaim.holds_of_wide 3 Try.f3 rfl rfl rfl rfl rfl rfl rfl ⟨rfl, rfl, rfl, rfl, rfl⟩ rfl rfl rfl rfl rfl (by kernel_rfl) Try.func3 (by kernel_rfl)
    (of_decide_eq_true (by kernel_rfl)) (by unfold Func.isWrapper; first | (rw [if_pos (by decide +kernel)]; kernel_rfl) | (rw [if_neg (by decide +kernel)]; exact ⟨rfl, rfl⟩))
    (fun os started H enc _ => lifted os started H enc)

/-- THE STATEMENT -/
theorem proved : Rows.RelocWordsSaid := over
#print axioms proved
end relocWords

end Go.Proofs.Ytpononkgeeahdaa
