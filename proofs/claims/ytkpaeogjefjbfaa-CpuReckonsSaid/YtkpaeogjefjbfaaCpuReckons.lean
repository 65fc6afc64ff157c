/-
  CpuReckons: the statement, out of its walk.
  Conditions: none. (My own text.)
-/
import Derived.Test.YtkpaeogjefjbfaaOpen
import Derived.Test.YtkpaeogjefjbfaaCre
namespace Go.Proofs.Ytkpaeogjefjbfaa
open Go.ChangeShapes Go.WideShapes Go.ChangeAt Go.RowKit Go.Deep
open Go.ChangeMaps (open_string)
set_option linter.unusedVariables false
set_option linter.unusedSimpArgs false

namespace cpuReckons
set_option maxRecDepth 100000 in
theorem lifted (os : Os) (started : os.Started) (H : Type) (enc : TypeId × Value → H) :
    ReturnsInHanded {} Try.checked os 3 .any (Rows.cpuReckonsSpec.pre6 enc Try.prog Try.f3 Rows.cpuReckonsRow.domain false) (Rows.cpuReckonsSpec.post enc Try.prog Try.f3 false true false false) := by
  refine law_lift (tb := 4) started (by kernel_rfl) Try.func3
    (ChangeSpec.witness6 (enc := enc) (C := Try.checked) false ⟨#[], #[.int .i64 0, .int .i64 0], []⟩ 8 (by kernel_rfl) (by kernel_rfl) (by kernel_rfl) (by kernel_rfl))
    (by kernel_rfl) rfl Try.underlying4 rfl (fun ds h => match ds, h with | [_, _], _ => rfl) ?_
  intro W base args ds gs before hval hW hwt hsh
  have hW' := hW
  obtain ⟨p, q, hA0, hV, rfl, hfz, hnd⟩ := hW
  have hA : DataW.TrodAll enc Try.prog W 0 (fun _ => true) true Try.f3.params.toList args.toList ds p := hA0
  rw [Try.params3] at hA hval
  obtain ⟨v0, vs0, d0, ds0, p0, q0, hargs, rfl, rfl, h0, r0⟩ := trodAll_cons hA
  obtain ⟨v1, vs1, d1, ds1, p1, q1, rfl, rfl, rfl, h1, r1⟩ := trodAll_cons r0
  obtain ⟨rfl, rfl, rfl⟩ := trodAll_nil r1
  obtain rfl : args = #[v0, v1] := by cases args; simp_all
  obtain ⟨x, rfl, rfl, rfl, wx⟩ := open_int Try.underlying3 (hval 0 3 v0 rfl rfl) h0
  obtain ⟨y, rfl, rfl, rfl, wy⟩ := open_int Try.underlying3 (hval 1 3 v1 rfl rfl) h1
  have rx : -9223372036854775808 ≤ x ∧ x ≤ 9223372036854775807 := by have h := wx; simp [Lit.wf, IntKind.min, IntKind.max, IntKind.signed, IntKind.bits] at h; omega
  have ry : -9223372036854775808 ≤ y ∧ y ≤ 9223372036854775807 := by have h := wy; simp [Lit.wf, IntKind.min, IntKind.max, IntKind.signed, IntKind.bits] at h; omega
  exact reckons_walk x y rx ry W

set_option maxRecDepth 100000 in
theorem over : Rows.cpuReckonsRow.holds Try.pinned (OpenSpec.ofChange Rows.cpuReckonsSpec) :=
  OpenClaim.holds_of_wide 3 Try.f3 rfl rfl rfl rfl rfl rfl rfl ⟨rfl, rfl, rfl, rfl, rfl⟩ rfl rfl rfl rfl rfl (by kernel_rfl) Try.func3 (by kernel_rfl)
    (of_decide_eq_true (by kernel_rfl)) (by unfold Func.isWrapper; first | (rw [if_pos (by decide +kernel)]; kernel_rfl) | (rw [if_neg (by decide +kernel)]; exact ⟨rfl, rfl⟩))
    (fun os started H enc _ => lifted os started H enc)

/-- THE STATEMENT -/
theorem proved : Rows.CpuReckonsSaid := over
#print axioms proved
end cpuReckons

end Go.Proofs.Ytkpaeogjefjbfaa
