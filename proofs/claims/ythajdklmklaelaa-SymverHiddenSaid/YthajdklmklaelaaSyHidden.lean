/-
  SymverHidden: the statement, out of its walk.
  Conditions: none. (My own text.)
-/
import Derived.Test.YthajdklmklaelaaOpen
import Derived.Test.YthajdklmklaelaaSyi
namespace Go.Proofs.Ythajdklmklaelaa
open Go.ChangeShapes Go.WideShapes Go.ChangeAt Go.RowKit Go.Deep
open Go.ChangeMaps (open_string)
set_option linter.unusedVariables false
set_option linter.unusedSimpArgs false

namespace symverHidden
set_option maxRecDepth 100000 in
theorem lifted (os : Os) (started : os.Started) (H : Type) (enc : TypeId × Value → H) :
    ReturnsInHanded {} Try.checked os 5 .any (Rows.symverHiddenSpec.pre6 enc Try.prog Try.f5 Rows.symverHiddenRow.domain false) (Rows.symverHiddenSpec.post enc Try.prog Try.f5 false true false false) := by
  refine law_lift (tb := 4) started (by kernel_rfl) Try.func5
    (ChangeSpec.witness6 (enc := enc) (C := Try.checked) false ⟨#[], #[.agg #[.string ⟨#[]⟩, .string ⟨#[]⟩, .bool false, .int .i64 0, .bool false, .int .i64 0, .bool false, .int .i64 0, .int .i64 0], .agg #[.string ⟨#[]⟩, .string ⟨#[]⟩, .bool false, .int .i64 0, .bool false, .int .i64 0, .bool false, .int .i64 0, .int .i64 0], .bool false], []⟩ 8 (by kernel_rfl) (by kernel_rfl) (by kernel_rfl) (by kernel_rfl))
    (by kernel_rfl) rfl Try.underlying4 rfl (fun ds h => match ds, h with | [_, _, _], _ => rfl) ?_
  intro W base args ds gs before hval hW hwt hsh
  have hW' := hW
  obtain ⟨p, q, hA0, hV, rfl, hfz, hnd⟩ := hW
  have hA : DataW.TrodAll enc Try.prog W 0 (fun _ => true) true Try.f5.params.toList args.toList ds p := hA0
  rw [Try.params5] at hA hval
  obtain ⟨v0, vs0, d0, ds0, p0, q0, hargs, rfl, rfl, h0, r0⟩ := trodAll_cons hA
  obtain ⟨v1, vs1, d1, ds1, p1, q1, rfl, rfl, rfl, h1, r1⟩ := trodAll_cons r0
  obtain ⟨v2, vs2, d2, ds2, p2, q2, rfl, rfl, rfl, h2, r2⟩ := trodAll_cons r1
  obtain ⟨rfl, rfl, rfl⟩ := trodAll_nil r2
  obtain rfl : args = #[v0, v1, v2] := by cases args; simp_all
  obtain ⟨cs0, rfl, hl0, hf0⟩ := open_ones Try.underlying26 (by kernel_rfl) (by kernel_rfl) (hval 0 26 v0 rfl rfl) h0
  match cs0, hl0 with
  | [a0, a1, a2, a3, a4, a5, a6, a7, a8], _ =>
  obtain ⟨na0, ya0, ea0⟩ := hf0 0 _ _ rfl rfl
  obtain ⟨xa0, rfl, wa0⟩ := string_cell Try.underlying9 ea0
  obtain ⟨na1, ya1, ea1⟩ := hf0 1 _ _ rfl rfl
  obtain ⟨xa1, rfl, wa1⟩ := string_cell Try.underlying9 ea1
  obtain ⟨na2, ya2, ea2⟩ := hf0 2 _ _ rfl rfl
  obtain ⟨xa2, rfl⟩ := bool_cell Try.underlying4 ea2
  obtain ⟨na3, ya3, ea3⟩ := hf0 3 _ _ rfl rfl
  obtain ⟨xa3, rfl, wa3⟩ := int_cell Try.underlying23 ea3
  obtain ⟨na4, ya4, ea4⟩ := hf0 4 _ _ rfl rfl
  obtain ⟨xa4, rfl⟩ := bool_cell Try.underlying4 ea4
  obtain ⟨na5, ya5, ea5⟩ := hf0 5 _ _ rfl rfl
  obtain ⟨xa5, rfl, wa5⟩ := int_cell Try.underlying24 ea5
  obtain ⟨na6, ya6, ea6⟩ := hf0 6 _ _ rfl rfl
  obtain ⟨xa6, rfl⟩ := bool_cell Try.underlying4 ea6
  obtain ⟨na7, ya7, ea7⟩ := hf0 7 _ _ rfl rfl
  obtain ⟨xa7, rfl, wa7⟩ := int_cell Try.underlying3 ea7
  obtain ⟨na8, ya8, ea8⟩ := hf0 8 _ _ rfl rfl
  obtain ⟨xa8, rfl, wa8⟩ := int_cell Try.underlying3 ea8
  obtain ⟨cs1, rfl, hl1, hf1⟩ := open_onesR Try.underlying26 (by kernel_rfl) (by kernel_rfl) (hval 1 26 v1 rfl rfl) h1
  have hreach1 := reach_of (P := Try.prog) hwt 1 (t := 26) (d := d1) rfl rfl
  match cs1, hl1 with
  | [b0, b1, b2, b3, b4, b5, b6, b7, b8], _ =>
  obtain ⟨nb0, yb0, eb0, mb0⟩ := hf1 0 _ _ rfl rfl
  obtain ⟨xb0, rfl, wb0⟩ := string_cellR Try.underlying9 eb0
  have rb0 : xb0.size ≤ 140737488351232 := hreach1 _ (mb0 _ wb0)
  obtain ⟨nb1, yb1, eb1, mb1⟩ := hf1 1 _ _ rfl rfl
  obtain ⟨xb1, rfl, wb1⟩ := string_cellR Try.underlying9 eb1
  have rb1 : xb1.size ≤ 140737488351232 := hreach1 _ (mb1 _ wb1)
  obtain ⟨nb2, yb2, eb2, mb2⟩ := hf1 2 _ _ rfl rfl
  obtain ⟨xb2, rfl⟩ := bool_cell Try.underlying4 eb2
  obtain ⟨nb3, yb3, eb3, mb3⟩ := hf1 3 _ _ rfl rfl
  obtain ⟨xb3, rfl, wb3⟩ := int_cell Try.underlying23 eb3
  obtain ⟨nb4, yb4, eb4, mb4⟩ := hf1 4 _ _ rfl rfl
  obtain ⟨xb4, rfl⟩ := bool_cell Try.underlying4 eb4
  obtain ⟨nb5, yb5, eb5, mb5⟩ := hf1 5 _ _ rfl rfl
  obtain ⟨xb5, rfl, wb5⟩ := int_cell Try.underlying24 eb5
  obtain ⟨nb6, yb6, eb6, mb6⟩ := hf1 6 _ _ rfl rfl
  obtain ⟨xb6, rfl⟩ := bool_cell Try.underlying4 eb6
  obtain ⟨nb7, yb7, eb7, mb7⟩ := hf1 7 _ _ rfl rfl
  obtain ⟨xb7, rfl, wb7⟩ := int_cell Try.underlying3 eb7
  obtain ⟨nb8, yb8, eb8, mb8⟩ := hf1 8 _ _ rfl rfl
  obtain ⟨xb8, rfl, wb8⟩ := int_cell Try.underlying3 eb8
  obtain ⟨s, rfl, rfl, rfl⟩ := open_bool Try.underlying4 (hval 2 4 v2 rfl rfl) h2
  exact hidden_walk xa0 xa1 xa2 xa4 xa6 xa3 xa5 xa7 xa8 xb0 xb1 xb2 xb4 xb6 xb3 xb5 xb7 xb8 s rb0 W

theorem over : Rows.symverHiddenRow.holds Try.pinned (OpenSpec.ofChange Rows.symverHiddenSpec) :=
  OpenClaim.holds_of_wide 5 Try.f5 rfl rfl rfl rfl rfl rfl rfl ⟨rfl, rfl, rfl, rfl, rfl⟩ rfl rfl rfl rfl rfl (by kernel_rfl) Try.func5 (by kernel_rfl)
    (of_decide_eq_true (by kernel_rfl)) (by unfold Func.isWrapper; first | (rw [if_pos (by decide +kernel)]; kernel_rfl) | (rw [if_neg (by decide +kernel)]; exact ⟨rfl, rfl⟩))
    (fun os started H enc _ => lifted os started H enc)

/-- THE STATEMENT -/
theorem proved : Rows.SymverHiddenSaid := over
#print axioms proved
end symverHidden

end Go.Proofs.Ythajdklmklaelaa
