/-
  SymverOne: the statement, out of its walk.
  Conditions: none. (My own text.)
-/
import Derived.Test.YthajdklmklaelaaOpen
import Derived.Test.YthajdklmklaelaaSyo
import Derived.Test.YthajdklmklaelaaSy1
namespace Go.Proofs.Ythajdklmklaelaa
open Go.ChangeShapes Go.WideShapes Go.ChangeAt Go.RowKit Go.Deep
open Go.ChangeMaps (open_string)
set_option linter.unusedVariables false
set_option linter.unusedSimpArgs false

namespace symverOne
set_option maxRecDepth 100000 in
theorem lifted (os : Os) (started : os.Started) (H : Type) (enc : TypeId × Value → H) :
    ReturnsInHanded {} Try.checked os 4 .any (Rows.symverOneSpec.pre6 enc Try.prog Try.f4 Rows.symverOneRow.domain false) (Rows.symverOneSpec.post enc Try.prog Try.f4 false true false false) := by
  refine law_lift (tb := 4) started (by kernel_rfl) Try.func4
    (ChangeSpec.witness6 (enc := enc) (C := Try.checked) false ⟨#[], #[.agg #[.string ⟨#[]⟩, .string ⟨#[]⟩, .bool false, .int .i64 0, .bool false, .int .i64 0, .bool false, .int .i64 0, .int .i64 0], .slice none 0 0], []⟩ 8 (by kernel_rfl) (by kernel_rfl) (by kernel_rfl) (by kernel_rfl))
    (by kernel_rfl) rfl Try.underlying4 rfl (fun ds h => match ds, h with | [_, _], _ => rfl) ?_
  intro W base args ds gs before hval hW hwt hsh
  have hW' := hW
  obtain ⟨p, q, hA0, hV, rfl, hfz, hnd⟩ := hW
  have hA : DataW.TrodAll enc Try.prog W 0 (fun _ => true) true Try.f4.params.toList args.toList ds p := hA0
  rw [Try.params4] at hA hval
  obtain ⟨v0, vs0, d0, ds0, p0, q0, hargs, rfl, rfl, h0, r0⟩ := trodAll_cons hA
  obtain ⟨v1, vs1, d1, ds1, p1, q1, rfl, rfl, rfl, h1, r1⟩ := trodAll_cons r0
  obtain ⟨rfl, rfl, rfl⟩ := trodAll_nil r1
  obtain rfl : args = #[v0, v1] := by cases args; simp_all
  obtain ⟨cs0, rfl, hl0, hf0⟩ := open_ones Try.underlying26 (by kernel_rfl) (by kernel_rfl) (hval 0 26 v0 rfl rfl) h0
  match cs0, hl0 with
  | [a0, a1, a2, a3, a4, a5, a6, a7, a8], _ =>
  obtain ⟨na0, ya0, ea0⟩ := hf0 0 _ _ rfl rfl
  obtain ⟨xa0, rfl, wa0⟩ := string_cell Try.underlying9 ea0
  obtain ⟨na1, ya1, ea1⟩ := hf0 1 _ _ rfl rfl
  obtain ⟨xa1, rfl, wa1⟩ := string_cell Try.underlying9 ea1
  obtain ⟨na2, ya2, ea2⟩ := hf0 2 _ _ rfl rfl
  obtain ⟨xa2, rfl⟩ := bool_cell Try.underlying4 ea2
  obtain ⟨na3, ya3, ea3⟩ := hf0 3 _ _ rfl rfl
  obtain ⟨xa3, rfl, wa3⟩ := int_cell Try.underlying23 ea3
  obtain ⟨na4, ya4, ea4⟩ := hf0 4 _ _ rfl rfl
  obtain ⟨xa4, rfl⟩ := bool_cell Try.underlying4 ea4
  obtain ⟨na5, ya5, ea5⟩ := hf0 5 _ _ rfl rfl
  obtain ⟨xa5, rfl, wa5⟩ := int_cell Try.underlying24 ea5
  obtain ⟨na6, ya6, ea6⟩ := hf0 6 _ _ rfl rfl
  obtain ⟨xa6, rfl⟩ := bool_cell Try.underlying4 ea6
  obtain ⟨na7, ya7, ea7⟩ := hf0 7 _ _ rfl rfl
  obtain ⟨xa7, rfl, wa7⟩ := int_cell Try.underlying3 ea7
  obtain ⟨na8, ya8, ea8⟩ := hf0 8 _ _ rfl rfl
  obtain ⟨xa8, rfl, wa8⟩ := int_cell Try.underlying3 ea8
  obtain ⟨l, hl⟩ := open_syms Try.underlying32 (hval 1 32 v1 rfl rfl) h1
  rcases hl with ⟨A, c, rfl, rfl⟩ | ⟨b, off, c, rfl, hb, hm, hs⟩
  · exact one_nil xa0 xa1 xa2 xa4 xa6 xa3 xa5 xa7 xa8 A c W
  · exact one_walk xa0 xa1 xa2 xa4 xa6 xa3 xa5 xa7 xa8 b off c l W hb hm hs

theorem over : Rows.symverOneRow.holds Try.pinned (OpenSpec.ofChange Rows.symverOneSpec) :=
  OpenClaim.holds_of_wide 4 Try.f4 rfl rfl rfl rfl rfl rfl rfl ⟨rfl, rfl, rfl, rfl, rfl⟩ rfl rfl rfl rfl rfl (by kernel_rfl) Try.func4 (by kernel_rfl)
    (of_decide_eq_true (by kernel_rfl)) (by unfold Func.isWrapper; first | (rw [if_pos (by decide +kernel)]; kernel_rfl) | (rw [if_neg (by decide +kernel)]; exact ⟨rfl, rfl⟩))
    (fun os started H enc _ => lifted os started H enc)

/-- THE STATEMENT -/
theorem proved : Rows.SymverOneSaid := over
#print axioms proved
end symverOne

end Go.Proofs.Ythajdklmklaelaa
