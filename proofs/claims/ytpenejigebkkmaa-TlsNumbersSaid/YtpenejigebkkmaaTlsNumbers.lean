/-
  TlsNumbers: the statement, out of its walk.
  Conditions: none. (My own text.)
-/
import Derived.Test.YtpenejigebkkmaaOpen
import Derived.Test.YtpenejigebkkmaaTmx
import Derived.Test.YtpenejigebkkmaaSp5
import Derived.Test.YtpenejigebkkmaaTnd
namespace Go.Proofs.Ytpenejigebkkmaa
open Go.ChangeShapes Go.WideShapes Go.ChangeAt Go.RowKit Go.Deep
open Go.ChangeMaps (open_string)
set_option linter.unusedVariables false
set_option linter.unusedSimpArgs false

namespace tlsNumbers
set_option maxRecDepth 100000 in
theorem lifted (os : Os) (started : os.Started) (H : Type) (enc : TypeId × Value → H) :
    ReturnsInHanded {} Try.checked os 5 .any (Rows.tlsNumbersSpec.pre6 enc Try.prog Try.f5 Rows.tlsNumbersRow.domain false) (Rows.tlsNumbersSpec.post enc Try.prog Try.f5 false true false false) := by
  refine law_lift (tb := 4) started (by kernel_rfl) Try.func5
    (ChangeSpec.witness6 (enc := enc) (C := Try.checked) false ⟨#[], #[.slice none 0 0, .slice none 0 0, .int .i64 0, .int .i64 0, .int .u8 0], []⟩ 8 (by kernel_rfl) (by kernel_rfl) (by kernel_rfl) (by kernel_rfl))
    (by kernel_rfl) rfl Try.underlying4 rfl (fun ds h => match ds, h with | [_, _, _, _, _], _ => rfl) ?_
  intro W base args ds gs before hval hW hwt hsh
  have hW' := hW
  obtain ⟨p, q, hA0, hV, rfl, hfz, hnd⟩ := hW
  have hA : DataW.TrodAll enc Try.prog W 0 (fun _ => true) true Try.f5.params.toList args.toList ds p := hA0
  rw [Try.params5] at hA hval
  obtain ⟨v0, vs0, d0, ds0, p0, q0, hargs, rfl, rfl, h0, r0⟩ := trodAll_cons hA
  obtain ⟨v1, vs1, d1, ds1, p1, q1, rfl, rfl, rfl, h1, r1⟩ := trodAll_cons r0
  obtain ⟨v2, vs2, d2, ds2, p2, q2, rfl, rfl, rfl, h2, r2⟩ := trodAll_cons r1
  obtain ⟨v3, vs3, d3, ds3, p3, q3, rfl, rfl, rfl, h3, r3⟩ := trodAll_cons r2
  obtain ⟨v4, vs4, d4, ds4, p4, q4, rfl, rfl, rfl, h4, r4⟩ := trodAll_cons r3
  obtain ⟨rfl, rfl, rfl⟩ := trodAll_nil r4
  obtain rfl : args = #[v0, v1, v2, v3, v4] := by cases args; simp_all
  obtain ⟨l, hl⟩ := open_tacts Try.underlying22 (hval 0 22 v0 rfl rfl) h0 (reach_of (P := Try.prog) hwt 0 (t := 22) rfl rfl)
  obtain ⟨Ab, bb, cb, rfl, hlb, hbb⟩ := open_bytesT Try.underlying31 (hval 1 31 v1 rfl rfl) h1
  obtain ⟨n, rfl, rfl, rfl, wn⟩ := open_int Try.underlying3 (hval 2 3 v2 rfl rfl) h2
  obtain ⟨o, rfl, rfl, rfl, wo⟩ := open_int Try.underlying3 (hval 3 3 v3 rfl rfl) h3
  obtain ⟨a, rfl, rfl, rfl, wa⟩ := open_int Try.underlying5 (hval 4 5 v4 rfl rfl) h4
  have ra : 0 ≤ a ∧ a ≤ 255 := by have h := wa; simp [Lit.wf, IntKind.min, IntKind.max, IntKind.signed, IntKind.bits] at h; omega
  exact tnum_walk v0 l Ab cb bb hlb n o a ra.1 ra.2 W hl hbb

set_option maxRecDepth 100000 in
theorem over : Rows.tlsNumbersRow.holds Try.pinned (OpenSpec.ofChange Rows.tlsNumbersSpec) :=
  OpenClaim.holds_of_wide 5 Try.f5 rfl rfl rfl rfl rfl rfl rfl ⟨rfl, rfl, rfl, rfl, rfl⟩ rfl rfl rfl rfl rfl (by kernel_rfl) Try.func5 (by kernel_rfl)
    (of_decide_eq_true (by kernel_rfl)) (by unfold Func.isWrapper; first | (rw [if_pos (by decide +kernel)]; kernel_rfl) | (rw [if_neg (by decide +kernel)]; exact ⟨rfl, rfl⟩))
    (fun os started H enc _ => lifted os started H enc)

/-- THE STATEMENT -/
theorem proved : Rows.TlsNumbersSaid := over
#print axioms proved
end tlsNumbers

end Go.Proofs.Ytpenejigebkkmaa
