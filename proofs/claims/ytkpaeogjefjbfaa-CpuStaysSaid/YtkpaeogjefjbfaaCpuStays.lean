/-
  CpuStays: the statement, out of its walk.
  Conditions: none. (My own text.)
-/
import Derived.Test.YtkpaeogjefjbfaaOpen
import Derived.Test.YtkpaeogjefjbfaaCsy
namespace Go.Proofs.Ytkpaeogjefjbfaa
open Go.ChangeShapes Go.WideShapes Go.ChangeAt Go.RowKit Go.Deep
open Go.ChangeMaps (open_string)
set_option linter.unusedVariables false
set_option linter.unusedSimpArgs false

namespace cpuStays
set_option maxRecDepth 100000 in
theorem lifted (os : Os) (started : os.Started) (H : Type) (enc : TypeId × Value → H) :
    ReturnsInHanded {} Try.checked os 8 .any (Rows.cpuStaysSpec.pre6 enc Try.prog Try.f8 Rows.cpuStaysRow.domain false) (Rows.cpuStaysSpec.post enc Try.prog Try.f8 false true false false) := by
  refine law_lift (tb := 4) started (by kernel_rfl) Try.func8
    (ChangeSpec.witness6 (enc := enc) (C := Try.checked) false ⟨#[], #[.agg #[.slice none 0 0, .slice none 0 0, .int .i64 0, .int .i64 0, .int .i64 0, .int .i64 0, .int .i64 0, .int .i64 0, .int .i64 0, .int .i64 0, .int .i64 0, .int .i64 0, .int .i64 0, .int .i64 0, .int .i64 0, .int .i64 0, .int .i64 0, .int .i64 0, .int .i64 0, .int .i64 0, .int .i64 0], .agg #[.int .i64 0, .int .i64 0, .int .i64 0, .int .i64 0, .int .i64 0]], []⟩ 8 (by kernel_rfl) (by kernel_rfl) (by kernel_rfl) (by kernel_rfl))
    (by kernel_rfl) rfl Try.underlying4 rfl (fun ds h => match ds, h with | [_, _], _ => rfl) ?_
  intro W base args ds gs before hval hW hwt hsh
  have hW' := hW
  obtain ⟨p, q, hA0, hV, rfl, hfz, hnd⟩ := hW
  have hA : DataW.TrodAll enc Try.prog W 0 (fun _ => true) true Try.f8.params.toList args.toList ds p := hA0
  rw [Try.params8] at hA hval
  obtain ⟨v0, vs0, d0, ds0, p0, q0, hargs, rfl, rfl, h0, r0⟩ := trodAll_cons hA
  obtain ⟨v1, vs1, d1, ds1, p1, q1, rfl, rfl, rfl, h1, r1⟩ := trodAll_cons r0
  obtain ⟨rfl, rfl, rfl⟩ := trodAll_nil r1
  obtain rfl : args = #[v0, v1] := by cases args; simp_all
  obtain ⟨va, vc, l, is, at_, C, rfl, hl, hi, ha, hc⟩ := open_case (hval 0 46 v0 rfl rfl) h0
  obtain ⟨cs1, rfl, hl1, hf1⟩ := open_ones Try.underlying30 (by kernel_rfl) (by kernel_rfl) (hval 1 30 v1 rfl rfl) h1
  match cs1, hl1 with
  | [a0, a1, a2, a3, a4], _ =>
  obtain ⟨na0, ya0, ea0⟩ := hf1 0 _ _ rfl rfl
  obtain ⟨xa0, rfl, wa0⟩ := int_cell Try.underlying28 ea0
  obtain ⟨na1, ya1, ea1⟩ := hf1 1 _ _ rfl rfl
  obtain ⟨xa1, rfl, wa1⟩ := int_cell Try.underlying3 ea1
  obtain ⟨na2, ya2, ea2⟩ := hf1 2 _ _ rfl rfl
  obtain ⟨xa2, rfl, wa2⟩ := int_cell Try.underlying3 ea2
  obtain ⟨na3, ya3, ea3⟩ := hf1 3 _ _ rfl rfl
  obtain ⟨xa3, rfl, wa3⟩ := int_cell Try.underlying3 ea3
  obtain ⟨na4, ya4, ea4⟩ := hf1 4 _ _ rfl rfl
  obtain ⟨xa4, rfl, wa4⟩ := int_cell Try.underlying3 ea4
  exact stays_walk va vc l is at_ C ⟨xa0, xa1, xa2, xa3, xa4⟩ W hl hi ha hc

set_option maxRecDepth 100000 in
theorem over : Rows.cpuStaysRow.holds Try.pinned (OpenSpec.ofChange Rows.cpuStaysSpec) :=
  OpenClaim.holds_of_wide 8 Try.f8 rfl rfl rfl rfl rfl rfl rfl ⟨rfl, rfl, rfl, rfl, rfl⟩ rfl rfl rfl rfl rfl (by kernel_rfl) Try.func8 (by kernel_rfl)
    (of_decide_eq_true (by kernel_rfl)) (by unfold Func.isWrapper; first | (rw [if_pos (by decide +kernel)]; kernel_rfl) | (rw [if_neg (by decide +kernel)]; exact ⟨rfl, rfl⟩))
    (fun os started H enc _ => lifted os started H enc)

/-- THE STATEMENT -/
theorem proved : Rows.CpuStaysSaid := over
#print axioms proved
end cpuStays

end Go.Proofs.Ytkpaeogjefjbfaa
