/-
  PlaceMaps: the statement, out of its walk.
  Conditions: none. (My own text.)
-/
import Derived.Test.YtlkelfaokbdddaaOpen
import Derived.Test.YtlkelfaokbdddaaSp5
import Derived.Test.YtlkelfaokbdddaaPma
namespace Go.Proofs.Ytlkelfaokbdddaa
open Go.ChangeShapes Go.WideShapes Go.ChangeAt Go.RowKit Go.Deep
open Go.ChangeMaps (open_string)
set_option linter.unusedVariables false
set_option linter.unusedSimpArgs false

namespace placeMaps
set_option maxRecDepth 100000 in
theorem lifted (os : Os) (started : os.Started) (H : Type) (enc : TypeId × Value → H) :
    ReturnsInHanded {} Try.checked os 6 .any (Rows.placeMapsSpec.pre6 enc Try.prog Try.f6 Rows.placeMapsRow.domain false) (Rows.placeMapsSpec.post enc Try.prog Try.f6 false true false false) := by
  refine law_lift (tb := 4) started (by kernel_rfl) Try.func6
    (ChangeSpec.witness6 (enc := enc) (C := Try.checked) false ⟨#[], #[.slice none 0 0, .slice none 0 0], []⟩ 8 (by kernel_rfl) (by kernel_rfl) (by kernel_rfl) (by kernel_rfl))
    (by kernel_rfl) rfl Try.underlying4 rfl (fun ds h => match ds, h with | [_, _], _ => rfl) ?_
  intro W base args ds gs before hval hW hwt hsh
  have hW' := hW
  obtain ⟨p, q, hA0, hV, rfl, hfz, hnd⟩ := hW
  have hA : DataW.TrodAll enc Try.prog W 0 (fun _ => true) true Try.f6.params.toList args.toList ds p := hA0
  rw [Try.params6] at hA hval
  obtain ⟨v0, vs0, d0, ds0, p0, q0, hargs, rfl, rfl, h0, r0⟩ := trodAll_cons hA
  obtain ⟨v1, vs1, d1, ds1, p1, q1, rfl, rfl, rfl, h1, r1⟩ := trodAll_cons r0
  obtain ⟨rfl, rfl, rfl⟩ := trodAll_nil r1
  obtain rfl : args = #[v0, v1] := by cases args; simp_all
  obtain ⟨l, hl⟩ := open_acts Try.underlying22 (hval 0 22 v0 rfl rfl) h0
  obtain ⟨il, hil, hii⟩ := open_imgs Try.underlying61 (hval 1 61 v1 rfl rfl) h1
  exact maps15_walk v0 l v1 il W hl hil hii

set_option maxRecDepth 100000 in
theorem over : Rows.placeMapsRow.holds Try.pinned (OpenSpec.ofChange Rows.placeMapsSpec) :=
  OpenClaim.holds_of_wide 6 Try.f6 rfl rfl rfl rfl rfl rfl rfl ⟨rfl, rfl, rfl, rfl, rfl⟩ rfl rfl rfl rfl rfl (by kernel_rfl) Try.func6 (by kernel_rfl)
    (of_decide_eq_true (by kernel_rfl)) (by unfold Func.isWrapper; first | (rw [if_pos (by decide +kernel)]; kernel_rfl) | (rw [if_neg (by decide +kernel)]; exact ⟨rfl, rfl⟩))
    (fun os started H enc _ => lifted os started H enc)

/-- THE STATEMENT -/
theorem proved : Rows.PlaceMapsSaid := over
#print axioms proved
end placeMaps

end Go.Proofs.Ytlkelfaokbdddaa
