/-
  TlsDoes: the statement, out of its walk.
  Conditions: none. (My own text.)
-/
import Derived.Test.YtpenejigebkkmaaGreatOpen
import Derived.Test.YtpenejigebkkmaaGreatTgj
namespace Go.Proofs.YtpenejigebkkmaaGreat
open Go.ChangeShapes Go.WideShapes Go.ChangeAt Go.RowKit Go.Deep
open Go.ChangeMaps (open_string)
set_option linter.unusedVariables false
set_option linter.unusedSimpArgs false

namespace tlsDoes
set_option maxRecDepth 100000 in
theorem lifted (os : Os) (started : os.Started) (H : Type) (enc : TypeId × Value → H) :
    ReturnsInHanded {} Tryz.checked os 3 .any (Rows.tlsDoesSpec.pre6 enc Tryz.prog Tryz.f3 Rows.tlsDoesRow.domain false) (Rows.tlsDoesSpec.post enc Tryz.prog Tryz.f3 false true false false) := by
  refine law_lift (tb := 4) started (by kernel_rfl) Tryz.func3
    (ChangeSpec.witness6 (enc := enc) (C := Tryz.checked) false ⟨#[], #[.slice none 0 0], []⟩ 8 (by kernel_rfl) (by kernel_rfl) (by kernel_rfl) (by kernel_rfl))
    (by kernel_rfl) rfl Tryz.underlying4 rfl (fun ds h => match ds, h with | [_], _ => rfl) ?_
  intro W base args ds gs before hval hW hwt hsh
  have hW' := hW
  obtain ⟨p, q, hA0, hV, rfl, hfz, hnd⟩ := hW
  have hA : DataW.TrodAll enc Tryz.prog W 0 (fun _ => true) true Tryz.f3.params.toList args.toList ds p := hA0
  rw [Tryz.params3] at hA hval
  obtain ⟨v0, vs0, d0, ds0, p0, q0, hargs, rfl, rfl, h0, r0⟩ := trodAll_cons hA
  obtain ⟨rfl, rfl, rfl⟩ := trodAll_nil r0
  obtain rfl : args = #[v0] := by cases args; simp_all
  obtain ⟨l, hl, hcl⟩ := open_tactsC Tryz.underlying22 (hval 0 22 v0 rfl rfl) h0 (reach_of (P := Tryz.prog) hwt 0 (t := 22) rfl rfl)
  exact tdoes_walk v0 l W hl hcl

set_option maxRecDepth 100000 in
theorem over : Rows.tlsDoesRow.holds Tryz.pinned (OpenSpec.ofChange Rows.tlsDoesSpec) :=
  OpenClaim.holds_of_wide 3 Tryz.f3 rfl rfl rfl rfl rfl rfl rfl ⟨rfl, rfl, rfl, rfl, rfl⟩ rfl rfl rfl rfl rfl (by kernel_rfl) Tryz.func3 (by kernel_rfl)
    (of_decide_eq_true (by kernel_rfl)) (by unfold Func.isWrapper; first | (rw [if_pos (by decide +kernel)]; kernel_rfl) | (rw [if_neg (by decide +kernel)]; exact ⟨rfl, rfl⟩))
    (fun os started H enc _ => lifted os started H enc)

/-- THE STATEMENT -/
theorem proved : Rows.TlsDoesSaid := over
#print axioms proved
end tlsDoes

end Go.Proofs.YtpenejigebkkmaaGreat
