/-
  TlsApart: the statement, out of its walk.
  Conditions: none. (My own text.)
-/
import Derived.Test.YtpenejigebkkmaaOpen
import Derived.Test.YtpenejigebkkmaaTmx
import Derived.Test.YtpenejigebkkmaaTnf
namespace Go.Proofs.Ytpenejigebkkmaa
open Go.ChangeShapes Go.WideShapes Go.ChangeAt Go.RowKit Go.Deep
open Go.ChangeMaps (open_string)
set_option linter.unusedVariables false
set_option linter.unusedSimpArgs false

namespace tlsApart
set_option maxRecDepth 100000 in
theorem lifted (os : Os) (started : os.Started) (H : Type) (enc : TypeId × Value → H) :
    ReturnsInHanded {} Try.checked os 6 .any (Rows.tlsApartSpec.pre6 enc Try.prog Try.f6 Rows.tlsApartRow.domain false) (Rows.tlsApartSpec.post enc Try.prog Try.f6 false true false false) := by
  refine law_lift (tb := 4) started (by kernel_rfl) Try.func6
    (ChangeSpec.witness6 (enc := enc) (C := Try.checked) false ⟨#[], #[.slice none 0 0], []⟩ 8 (by kernel_rfl) (by kernel_rfl) (by kernel_rfl) (by kernel_rfl))
    (by kernel_rfl) rfl Try.underlying4 rfl (fun ds h => match ds, h with | [_], _ => rfl) ?_
  intro W base args ds gs before hval hW hwt hsh
  have hW' := hW
  obtain ⟨p, q, hA0, hV, rfl, hfz, hnd⟩ := hW
  have hA : DataW.TrodAll enc Try.prog W 0 (fun _ => true) true Try.f6.params.toList args.toList ds p := hA0
  rw [Try.params6] at hA hval
  obtain ⟨v0, vs0, d0, ds0, p0, q0, hargs, rfl, rfl, h0, r0⟩ := trodAll_cons hA
  obtain ⟨rfl, rfl, rfl⟩ := trodAll_nil r0
  obtain rfl : args = #[v0] := by cases args; simp_all
  obtain ⟨l, hl⟩ := open_tacts Try.underlying22 (hval 0 22 v0 rfl rfl) h0 (reach_of (P := Try.prog) hwt 0 (t := 22) rfl rfl)
  exact tapart_walk v0 l W hl

set_option maxRecDepth 100000 in
theorem over : Rows.tlsApartRow.holds Try.pinned (OpenSpec.ofChange Rows.tlsApartSpec) :=
  OpenClaim.holds_of_wide 6 Try.f6 rfl rfl rfl rfl rfl rfl rfl ⟨rfl, rfl, rfl, rfl, rfl⟩ rfl rfl rfl rfl rfl (by kernel_rfl) Try.func6 (by kernel_rfl)
    (of_decide_eq_true (by kernel_rfl)) (by unfold Func.isWrapper; first | (rw [if_pos (by decide +kernel)]; kernel_rfl) | (rw [if_neg (by decide +kernel)]; exact ⟨rfl, rfl⟩))
    (fun os started H enc _ => lifted os started H enc)

/-- THE STATEMENT -/
theorem proved : Rows.TlsApartSaid := over
#print axioms proved
end tlsApart

end Go.Proofs.Ytpenejigebkkmaa
