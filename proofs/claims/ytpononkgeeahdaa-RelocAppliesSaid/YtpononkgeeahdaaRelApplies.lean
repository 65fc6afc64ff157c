/-
  RelocApplies: the statement, out of its walk.
  Conditions: none. (My own text.)
-/
import Derived.Test.YtpononkgeeahdaaOpen
import Derived.Test.YtpononkgeeahdaaSp5
import Derived.Test.YtpononkgeeahdaaRefw
namespace Go.Proofs.Ytpononkgeeahdaa
open Go.ChangeShapes Go.WideShapes Go.ChangeAt Go.RowKit Go.Deep
open Go.ChangeMaps (open_string)
set_option linter.unusedVariables false
set_option linter.unusedSimpArgs false

namespace relocApplies
set_option maxRecDepth 100000 in
theorem lifted (os : Os) (started : os.Started) (H : Type) (enc : TypeId × Value → H) :
    ReturnsInHanded {} Try.checked os 8 .any (Rows.relocAppliesSpec.pre6 enc Try.prog Try.f8 Rows.relocAppliesRow.domain false) (Rows.relocAppliesSpec.post enc Try.prog Try.f8 false true false false) := by
  refine law_lift (tb := 4) started (by kernel_rfl) Try.func8
    (ChangeSpec.witness6 (enc := enc) (C := Try.checked) false ⟨#[], #[.slice none 0 0, .int .i64 0, .slice none 0 0, .slice none 0 0], []⟩ 8 (by kernel_rfl) (by kernel_rfl) (by kernel_rfl) (by kernel_rfl))
    (by kernel_rfl) rfl Try.underlying4 rfl (fun ds h => match ds, h with | [_, _, _, _], _ => rfl) ?_
  intro W base args ds gs before hval hW hwt hsh
  have hW' := hW
  obtain ⟨p, q, hA0, hV, rfl, hfz, hnd⟩ := hW
  have hA : DataW.TrodAll enc Try.prog W 0 (fun _ => true) true Try.f8.params.toList args.toList ds p := hA0
  rw [Try.params8] at hA hval
  obtain ⟨v0, vs0, d0, ds0, p0, q0, hargs, rfl, rfl, h0, r0⟩ := trodAll_cons hA
  obtain ⟨v1, vs1, d1, ds1, p1, q1, rfl, rfl, rfl, h1, r1⟩ := trodAll_cons r0
  obtain ⟨v2, vs2, d2, ds2, p2, q2, rfl, rfl, rfl, h2, r2⟩ := trodAll_cons r1
  obtain ⟨v3, vs3, d3, ds3, p3, q3, rfl, rfl, rfl, h3, r3⟩ := trodAll_cons r2
  obtain ⟨rfl, rfl, rfl⟩ := trodAll_nil r3
  obtain rfl : args = #[v0, v1, v2, v3] := by cases args; simp_all
  obtain ⟨l, hl⟩ := open_acts Try.underlying44 (hval 0 44 v0 rfl rfl) h0
  obtain ⟨x, rfl, rfl, rfl, wx⟩ := open_int Try.underlying3 (hval 1 3 v1 rfl rfl) h1
  obtain ⟨rs, hrs⟩ := open_rels Try.underlying40 (hval 2 40 v2 rfl rfl) h2 (reach_of (P := Try.prog) hwt 2 (t := 40) rfl rfl)
  obtain ⟨fs, hfs⟩ := open_facts Try.underlying50 (hval 3 50 v3 rfl rfl) h3 (reach_of (P := Try.prog) hwt 3 (t := 50) rfl rfl)
  have b1 : Try.prog.bytesOf 24 = 32 := by kernel_rfl
  have b2 : Try.prog.bytesOf 26 = 56 := by kernel_rfl
  rw [b1] at hrs
  rw [b2] at hfs
  exact applies_walk v0 l x v2 v3 rs fs W hl hrs.1 hfs.1 hrs.2 hfs.2.1 hfs.2.2

set_option maxRecDepth 100000 in
theorem over : Rows.relocAppliesRow.holds Try.pinned (OpenSpec.ofChange Rows.relocAppliesSpec) :=
  OpenClaim.holds_of_wide 8 Try.f8 rfl rfl rfl rfl rfl rfl rfl ⟨rfl, rfl, rfl, rfl, rfl⟩ rfl rfl rfl rfl rfl (by kernel_rfl) Try.func8 (by kernel_rfl)
    (of_decide_eq_true (by kernel_rfl)) (by unfold Func.isWrapper; first | (rw [if_pos (by decide +kernel)]; kernel_rfl) | (rw [if_neg (by decide +kernel)]; exact ⟨rfl, rfl⟩))
    (fun os started H enc _ => lifted os started H enc)

/-- THE STATEMENT -/
theorem proved : Rows.RelocAppliesSaid := over
#print axioms proved
end relocApplies

end Go.Proofs.Ytpononkgeeahdaa
