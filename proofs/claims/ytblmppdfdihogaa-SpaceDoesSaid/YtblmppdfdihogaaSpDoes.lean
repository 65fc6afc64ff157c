/-
  SpaceDoes: the statement, out of its walk.
  Conditions: none. (My own text.)
-/
import Derived.Test.YtblmppdfdihogaaOpen
import Derived.Test.YtblmppdfdihogaaOpr
import Derived.Test.YtblmppdfdihogaaSdt
namespace Go.Proofs.Ytblmppdfdihogaa
open Go.ChangeShapes Go.WideShapes Go.ChangeAt Go.RowKit Go.Deep
open Go.ChangeMaps (open_string)
set_option linter.unusedVariables false
set_option linter.unusedSimpArgs false

namespace spaceDoes
set_option maxRecDepth 100000 in
theorem lifted (os : Os) (started : os.Started) (H : Type) (enc : TypeId × Value → H) :
    ReturnsInHanded {} Try.checked os 9 .any (Rows.spaceDoesSpec.pre6 enc Try.prog Try.f9 Rows.spaceDoesRow.domain false) (Rows.spaceDoesSpec.post enc Try.prog Try.f9 false true false false) := by
  refine law_lift (tb := 4) started (by kernel_rfl) Try.func9
    (ChangeSpec.witness6 (enc := enc) (C := Try.checked) false ⟨#[], #[.slice none 0 0], []⟩ 8 (by kernel_rfl) (by kernel_rfl) (by kernel_rfl) (by kernel_rfl))
    (by kernel_rfl) rfl Try.underlying4 rfl (fun ds h => match ds, h with | [_], _ => rfl) ?_
  intro W base args ds gs before hval hW hwt hsh
  have hW' := hW
  obtain ⟨p, q, hA0, hV, rfl, hfz, hnd⟩ := hW
  have hA : DataW.TrodAll enc Try.prog W 0 (fun _ => true) true Try.f9.params.toList args.toList ds p := hA0
  rw [Try.params9] at hA hval
  obtain ⟨v0, vs0, d0, ds0, p0, q0, hargs, rfl, rfl, h0, r0⟩ := trodAll_cons hA
  obtain ⟨rfl, rfl, rfl⟩ := trodAll_nil r0
  obtain rfl : args = #[v0] := by cases args; simp_all
  obtain ⟨l, hl⟩ := open_actsR Try.underlying22 (hval 0 22 v0 rfl rfl) h0 (reach_of (P := Try.prog) hwt 0 (t := 22) rfl rfl)
  exact spdoes_walk v0 l W hl.1 hl.2

set_option maxRecDepth 100000 in
theorem over : Rows.spaceDoesRow.holds Try.pinned (OpenSpec.ofChange Rows.spaceDoesSpec) :=
  OpenClaim.holds_of_wide 9 Try.f9 rfl rfl rfl rfl rfl rfl rfl ⟨rfl, rfl, rfl, rfl, rfl⟩ rfl rfl rfl rfl rfl (by kernel_rfl) Try.func9 (by kernel_rfl)
    (of_decide_eq_true (by kernel_rfl)) (by unfold Func.isWrapper; first | (rw [if_pos (by decide +kernel)]; kernel_rfl) | (rw [if_neg (by decide +kernel)]; exact ⟨rfl, rfl⟩))
    (fun os started H enc _ => lifted os started H enc)

/-- THE STATEMENT -/
theorem proved : Rows.SpaceDoesSaid := over
#print axioms proved
end spaceDoes

end Go.Proofs.Ytblmppdfdihogaa
