/-
  RelocOne: the statement, out of its walk.
  Conditions: none. (My own text.)
-/
import Derived.Test.YtpononkgeeahdaaOpen
import Derived.Test.YtpononkgeeahdaaSqo
import Derived.Test.YtpononkgeeahdaaRele
namespace Go.Proofs.Ytpononkgeeahdaa
open Go.ChangeShapes Go.WideShapes Go.ChangeAt Go.RowKit Go.Deep
open Go.ChangeMaps (open_string)
set_option linter.unusedVariables false
set_option linter.unusedSimpArgs false

namespace relocOne
set_option maxRecDepth 100000 in
theorem lifted (os : Os) (started : os.Started) (H : Type) (enc : TypeId × Value → H) :
    ReturnsInHanded {} Try.checked os 9 .any (Rows.relocOneSpec.pre6 enc Try.prog Try.f9 Rows.relocOneRow.domain false) (Rows.relocOneSpec.post enc Try.prog Try.f9 false true false false) := by
  refine law_lift (tb := 4) started (by kernel_rfl) Try.func9
    (ChangeSpec.witness6 (enc := enc) (C := Try.checked) false ⟨#[], #[.slice none 0 0, .int .i64 0, .agg #[.int .i64 0, .int .i64 0, .int .i64 0, .int .i64 0], .agg #[.int .i64 0, .int .i64 0, .int .i64 0, .int .i64 0, .int .i64 0, .int .i64 0, .bool false, .bool false], .int .i64 0], []⟩ 8 (by kernel_rfl) (by kernel_rfl) (by kernel_rfl) (by kernel_rfl))
    (by kernel_rfl) rfl Try.underlying4 rfl (fun ds h => match ds, h with | [_, _, _, _, _], _ => rfl) ?_
  intro W base args ds gs before hval hW hwt hsh
  have hW' := hW
  obtain ⟨p, q, hA0, hV, rfl, hfz, hnd⟩ := hW
  have hA : DataW.TrodAll enc Try.prog W 0 (fun _ => true) true Try.f9.params.toList args.toList ds p := hA0
  rw [Try.params9] at hA hval
  obtain ⟨v0, vs0, d0, ds0, p0, q0, hargs, rfl, rfl, h0, r0⟩ := trodAll_cons hA
  obtain ⟨v1, vs1, d1, ds1, p1, q1, rfl, rfl, rfl, h1, r1⟩ := trodAll_cons r0
  obtain ⟨v2, vs2, d2, ds2, p2, q2, rfl, rfl, rfl, h2, r2⟩ := trodAll_cons r1
  obtain ⟨v3, vs3, d3, ds3, p3, q3, rfl, rfl, rfl, h3, r3⟩ := trodAll_cons r2
  obtain ⟨v4, vs4, d4, ds4, p4, q4, rfl, rfl, rfl, h4, r4⟩ := trodAll_cons r3
  obtain ⟨rfl, rfl, rfl⟩ := trodAll_nil r4
  obtain rfl : args = #[v0, v1, v2, v3, v4] := by cases args; simp_all
  obtain ⟨l, hl⟩ := open_acts Try.underlying44 (hval 0 44 v0 rfl rfl) h0
  obtain ⟨x, rfl, rfl, rfl, wx⟩ := open_int Try.underlying3 (hval 1 3 v1 rfl rfl) h1
  obtain ⟨y, rfl, rfl, rfl, wy⟩ := open_int Try.underlying3 (hval 4 3 v4 rfl rfl) h4
  obtain ⟨cs2, rfl, hl2, hf2⟩ := open_ones Try.underlying24 (by kernel_rfl) (by kernel_rfl) (hval 2 24 v2 rfl rfl) h2
  match cs2, hl2 with
  | [a0, a1, a2, a3], _ =>
  obtain ⟨na0, ya0, ea0⟩ := hf2 0 _ _ rfl rfl
  obtain ⟨xa0, rfl, wa0⟩ := int_cell Try.underlying3 ea0
  obtain ⟨na1, ya1, ea1⟩ := hf2 1 _ _ rfl rfl
  obtain ⟨xa1, rfl, wa1⟩ := int_cell Try.underlying22 ea1
  obtain ⟨na2, ya2, ea2⟩ := hf2 2 _ _ rfl rfl
  obtain ⟨xa2, rfl, wa2⟩ := int_cell Try.underlying3 ea2
  obtain ⟨na3, ya3, ea3⟩ := hf2 3 _ _ rfl rfl
  obtain ⟨xa3, rfl, wa3⟩ := int_cell Try.underlying3 ea3
  obtain ⟨cs3, rfl, hl3, hf3⟩ := open_ones Try.underlying26 (by kernel_rfl) (by kernel_rfl) (hval 3 26 v3 rfl rfl) h3
  match cs3, hl3 with
  | [b0, b1, b2, b3, b4, b5, b6, b7], _ =>
  obtain ⟨nb0, yb0, eb0⟩ := hf3 0 _ _ rfl rfl
  obtain ⟨xb0, rfl, wb0⟩ := int_cell Try.underlying3 eb0
  obtain ⟨nb1, yb1, eb1⟩ := hf3 1 _ _ rfl rfl
  obtain ⟨xb1, rfl, wb1⟩ := int_cell Try.underlying3 eb1
  obtain ⟨nb2, yb2, eb2⟩ := hf3 2 _ _ rfl rfl
  obtain ⟨xb2, rfl, wb2⟩ := int_cell Try.underlying3 eb2
  obtain ⟨nb3, yb3, eb3⟩ := hf3 3 _ _ rfl rfl
  obtain ⟨xb3, rfl, wb3⟩ := int_cell Try.underlying3 eb3
  obtain ⟨nb4, yb4, eb4⟩ := hf3 4 _ _ rfl rfl
  obtain ⟨xb4, rfl, wb4⟩ := int_cell Try.underlying3 eb4
  obtain ⟨nb5, yb5, eb5⟩ := hf3 5 _ _ rfl rfl
  obtain ⟨xb5, rfl, wb5⟩ := int_cell Try.underlying3 eb5
  obtain ⟨nb6, yb6, eb6⟩ := hf3 6 _ _ rfl rfl
  obtain ⟨xb6, rfl⟩ := bool_cell Try.underlying4 eb6
  obtain ⟨nb7, yb7, eb7⟩ := hf3 7 _ _ rfl rfl
  obtain ⟨xb7, rfl⟩ := bool_cell Try.underlying4 eb7
  exact one_walk v0 l x xa0 xa1 xa2 xa3 xb0 xb1 xb2 xb3 xb4 xb5 xb6 xb7 y (i64_of wy) (i64_of wb1).2 (i64_of wb2) (i64_of wb3) W hl

set_option maxRecDepth 100000 in
theorem over : Rows.relocOneRow.holds Try.pinned (OpenSpec.ofChange Rows.relocOneSpec) :=
  OpenClaim.holds_of_wide 9 Try.f9 rfl rfl rfl rfl rfl rfl rfl ⟨rfl, rfl, rfl, rfl, rfl⟩ rfl rfl rfl rfl rfl (by kernel_rfl) Try.func9 (by kernel_rfl)
    (of_decide_eq_true (by kernel_rfl)) (by unfold Func.isWrapper; first | (rw [if_pos (by decide +kernel)]; kernel_rfl) | (rw [if_neg (by decide +kernel)]; exact ⟨rfl, rfl⟩))
    (fun os started H enc _ => lifted os started H enc)

/-- THE STATEMENT -/
theorem proved : Rows.RelocOneSaid := over
#print axioms proved
end relocOne

end Go.Proofs.Ytpononkgeeahdaa
