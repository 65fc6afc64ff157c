/-
  TlsGone: the statement, out of its walk.
  Conditions: none. (My own text.)
-/
import Derived.Test.YtpenejigebkkmaaOpen
import Derived.Test.YtpenejigebkkmaaTmx
import Derived.Test.YtpenejigebkkmaaTne
namespace Go.Proofs.Ytpenejigebkkmaa
open Go.ChangeShapes Go.WideShapes Go.ChangeAt Go.RowKit Go.Deep
open Go.ChangeMaps (open_string)
set_option linter.unusedVariables false
set_option linter.unusedSimpArgs false

namespace tlsGone
set_option maxRecDepth 100000 in
theorem lifted (os : Os) (started : os.Started) (H : Type) (enc : TypeId × Value → H) :
    ReturnsInHanded {} Try.checked os 7 .any (Rows.tlsGoneSpec.pre6 enc Try.prog Try.f7 Rows.tlsGoneRow.domain false) (Rows.tlsGoneSpec.post enc Try.prog Try.f7 false true false false) := by
  refine law_lift (tb := 4) started (by kernel_rfl) Try.func7
    (ChangeSpec.witness6 (enc := enc) (C := Try.checked) false ⟨#[], #[.slice none 0 0, .int .u8 0], []⟩ 8 (by kernel_rfl) (by kernel_rfl) (by kernel_rfl) (by kernel_rfl))
    (by kernel_rfl) rfl Try.underlying4 rfl (fun ds h => match ds, h with | [_, _], _ => rfl) ?_
  intro W base args ds gs before hval hW hwt hsh
  have hW' := hW
  obtain ⟨p, q, hA0, hV, rfl, hfz, hnd⟩ := hW
  have hA : DataW.TrodAll enc Try.prog W 0 (fun _ => true) true Try.f7.params.toList args.toList ds p := hA0
  rw [Try.params7] at hA hval
  obtain ⟨v0, vs0, d0, ds0, p0, q0, hargs, rfl, rfl, h0, r0⟩ := trodAll_cons hA
  obtain ⟨v1, vs1, d1, ds1, p1, q1, rfl, rfl, rfl, h1, r1⟩ := trodAll_cons r0
  obtain ⟨rfl, rfl, rfl⟩ := trodAll_nil r1
  obtain rfl : args = #[v0, v1] := by cases args; simp_all
  obtain ⟨l, hl⟩ := open_tacts Try.underlying22 (hval 0 22 v0 rfl rfl) h0 (reach_of (P := Try.prog) hwt 0 (t := 22) rfl rfl)
  obtain ⟨a, rfl, rfl, rfl, wa⟩ := open_int Try.underlying5 (hval 1 5 v1 rfl rfl) h1
  have ra : 0 ≤ a ∧ a ≤ 255 := by have h := wa; simp [Lit.wf, IntKind.min, IntKind.max, IntKind.signed, IntKind.bits] at h; omega
  exact tgone_walk v0 l a ra.1 ra.2 W hl

set_option maxRecDepth 100000 in
theorem over : Rows.tlsGoneRow.holds Try.pinned (OpenSpec.ofChange Rows.tlsGoneSpec) :=
  OpenClaim.holds_of_wide 7 Try.f7 rfl rfl rfl rfl rfl rfl rfl ⟨rfl, rfl, rfl, rfl, rfl⟩ rfl rfl rfl rfl rfl (by kernel_rfl) Try.func7 (by kernel_rfl)
    (of_decide_eq_true (by kernel_rfl)) (by unfold Func.isWrapper; first | (rw [if_pos (by decide +kernel)]; kernel_rfl) | (rw [if_neg (by decide +kernel)]; exact ⟨rfl, rfl⟩))
    (fun os started H enc _ => lifted os started H enc)

/-- THE STATEMENT -/
theorem proved : Rows.TlsGoneSaid := over
#print axioms proved
end tlsGone

end Go.Proofs.Ytpenejigebkkmaa
