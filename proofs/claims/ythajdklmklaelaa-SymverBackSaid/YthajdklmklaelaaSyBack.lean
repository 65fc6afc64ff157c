/-
  SymverBack: the statement, out of its walk.
  Conditions: none. (My own text.)
-/
import Derived.Test.YthajdklmklaelaaOpen
import Derived.Test.YthajdklmklaelaaSybw2
import Derived.Test.YthajdklmklaelaaSybw3
namespace Go.Proofs.Ythajdklmklaelaa
open Go.ChangeShapes Go.WideShapes Go.ChangeAt Go.RowKit Go.Deep
open Go.ChangeMaps (open_string)
set_option linter.unusedVariables false
set_option linter.unusedSimpArgs false

namespace symverBack
set_option maxRecDepth 100000 in
theorem lifted (os : Os) (started : os.Started) (H : Type) (enc : TypeId × Value → H) :
    ReturnsInHanded {} Try.checked os 9 .any (Rows.symverBackSpec.pre6 enc Try.prog Try.f9 Rows.symverBackRow.domain false) (Rows.symverBackSpec.post enc Try.prog Try.f9 false true false false) := by
  refine law_lift (tb := 4) started (by kernel_rfl) Try.func9
    (ChangeSpec.witness6 (enc := enc) (C := Try.checked) false ⟨#[], #[.agg #[.string ⟨#[]⟩, .string ⟨#[]⟩, .bool false, .int .i64 0, .bool false, .int .i64 0, .bool false, .int .i64 0, .int .i64 0], .string ⟨#[]⟩, .bool false], []⟩ 8 (by kernel_rfl) (by kernel_rfl) (by kernel_rfl) (by kernel_rfl))
    (by kernel_rfl) rfl Try.underlying4 rfl (fun ds h => match ds, h with | [_, _, _], _ => rfl) ?_
  intro W base args ds gs before hval hW hwt hsh
  have hW' := hW
  obtain ⟨p, q, hA0, hV, rfl, hfz, hnd⟩ := hW
  have hA : DataW.TrodAll enc Try.prog W 0 (fun _ => true) true Try.f9.params.toList args.toList ds p := hA0
  rw [Try.params9] at hA hval
  obtain ⟨v0, vs0, d0, ds0, p0, q0, hargs, rfl, rfl, h0, r0⟩ := trodAll_cons hA
  obtain ⟨v1, vs1, d1, ds1, p1, q1, rfl, rfl, rfl, h1, r1⟩ := trodAll_cons r0
  obtain ⟨v2, vs2, d2, ds2, p2, q2, rfl, rfl, rfl, h2, r2⟩ := trodAll_cons r1
  obtain ⟨rfl, rfl, rfl⟩ := trodAll_nil r2
  obtain rfl : args = #[v0, v1, v2] := by cases args; simp_all
  obtain ⟨cs0, rfl, hl0, hf0⟩ := open_onesR Try.underlying26 (by kernel_rfl) (by kernel_rfl) (hval 0 26 v0 rfl rfl) h0
  have hreach0 := reach_of (P := Try.prog) hwt 0 (t := 26) (d := d0) rfl rfl
  match cs0, hl0 with
  | [a0, a1, a2, a3, a4, a5, a6, a7, a8], _ =>
  obtain ⟨na0, ya0, ea0, ma0⟩ := hf0 0 _ _ rfl rfl
  obtain ⟨xa0, rfl, wa0⟩ := string_cellR Try.underlying9 ea0
  have ra0 : xa0.size ≤ 140737488351232 := hreach0 _ (ma0 _ wa0)
  obtain ⟨na1, ya1, ea1, ma1⟩ := hf0 1 _ _ rfl rfl
  obtain ⟨xa1, rfl, wa1⟩ := string_cellR Try.underlying9 ea1
  have ra1 : xa1.size ≤ 140737488351232 := hreach0 _ (ma1 _ wa1)
  obtain ⟨na2, ya2, ea2, ma2⟩ := hf0 2 _ _ rfl rfl
  obtain ⟨xa2, rfl⟩ := bool_cell Try.underlying4 ea2
  obtain ⟨na3, ya3, ea3, ma3⟩ := hf0 3 _ _ rfl rfl
  obtain ⟨xa3, rfl, wa3⟩ := int_cell Try.underlying23 ea3
  obtain ⟨na4, ya4, ea4, ma4⟩ := hf0 4 _ _ rfl rfl
  obtain ⟨xa4, rfl⟩ := bool_cell Try.underlying4 ea4
  obtain ⟨na5, ya5, ea5, ma5⟩ := hf0 5 _ _ rfl rfl
  obtain ⟨xa5, rfl, wa5⟩ := int_cell Try.underlying24 ea5
  obtain ⟨na6, ya6, ea6, ma6⟩ := hf0 6 _ _ rfl rfl
  obtain ⟨xa6, rfl⟩ := bool_cell Try.underlying4 ea6
  obtain ⟨na7, ya7, ea7, ma7⟩ := hf0 7 _ _ rfl rfl
  obtain ⟨xa7, rfl, wa7⟩ := int_cell Try.underlying3 ea7
  obtain ⟨na8, ya8, ea8, ma8⟩ := hf0 8 _ _ rfl rfl
  obtain ⟨xa8, rfl, wa8⟩ := int_cell Try.underlying3 ea8
  obtain ⟨s, rfl, rfl, rfl, ws⟩ := open_string Try.underlying9 (hval 1 9 v1 rfl rfl) h1
  have rs : s.size ≤ 140737488351232 := reach_of (P := Try.prog) hwt 1 (t := 9) rfl rfl _ (by simp [DataW.weights])
  obtain ⟨d, rfl, rfl, rfl⟩ := open_bool Try.underlying4 (hval 2 4 v2 rfl rfl) h2
  cases hr : rightS xa0 xa1 xa2 xa6 xa3 xa5 xa7 xa8
  · rcases hp : parseS s d with _ | ⟨n2, v2, o2⟩
    · exact back_walk_no_none xa0 xa1 xa2 xa4 xa6 xa3 xa5 xa7 xa8 ra0 ra1 s rs d hr hp W
    · exact back_walk_no_some xa0 xa1 xa2 xa4 xa6 xa3 xa5 xa7 xa8 ra0 ra1 s rs d hr n2 v2 o2 hp W
  · rcases hp : parseS s d with _ | ⟨n2, v2, o2⟩
    · exact back_walk_yes_none xa0 xa1 xa2 xa4 xa6 xa3 xa5 xa7 xa8 ra0 ra1 s rs d hr hp W
    · exact back_walk_yes_some xa0 xa1 xa2 xa4 xa6 xa3 xa5 xa7 xa8 ra0 ra1 s rs d hr n2 v2 o2 hp W

theorem over : Rows.symverBackRow.holds Try.pinned (OpenSpec.ofChange Rows.symverBackSpec) :=
  OpenClaim.holds_of_wide 9 Try.f9 rfl rfl rfl rfl rfl rfl rfl ⟨rfl, rfl, rfl, rfl, rfl⟩ rfl rfl rfl rfl rfl (by kernel_rfl) Try.func9 (by kernel_rfl)
    (of_decide_eq_true (by kernel_rfl)) (by unfold Func.isWrapper; first | (rw [if_pos (by decide +kernel)]; kernel_rfl) | (rw [if_neg (by decide +kernel)]; exact ⟨rfl, rfl⟩))
    (fun os started H enc _ => lifted os started H enc)

/-- THE STATEMENT -/
theorem proved : Rows.SymverBackSaid := over
#print axioms proved
end symverBack

end Go.Proofs.Ythajdklmklaelaa
