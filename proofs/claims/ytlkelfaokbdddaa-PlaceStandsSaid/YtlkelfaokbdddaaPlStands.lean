/-
  PlaceStands: the statement, out of its walk.
  Conditions: none. (My own text.)
-/
import Derived.Test.YtlkelfaokbdddaaOpen
import Derived.Test.YtlkelfaokbdddaaSp5
import Derived.Test.YtlkelfaokbdddaaPlz
namespace Go.Proofs.Ytlkelfaokbdddaa
open Go.ChangeShapes Go.WideShapes Go.ChangeAt Go.RowKit Go.Deep
open Go.ChangeMaps (open_string)
set_option linter.unusedVariables false
set_option linter.unusedSimpArgs false

namespace placeStands
set_option maxRecDepth 100000 in
theorem lifted (os : Os) (started : os.Started) (H : Type) (enc : TypeId × Value → H) :
    ReturnsInHanded {} Try.checked os 3 .any (Rows.placeStandsSpec.pre6 enc Try.prog Try.f3 Rows.placeStandsRow.domain false) (Rows.placeStandsSpec.post enc Try.prog Try.f3 false true false false) := by
  refine law_lift (tb := 4) started (by kernel_rfl) Try.func3
    (ChangeSpec.witness6 (enc := enc) (C := Try.checked) false ⟨#[], #[.slice none 0 0, .agg #[.string ⟨#[]⟩, .int .i64 0, .slice none 0 0, .slice none 0 0, .slice none 0 0, .slice none 0 0, .slice none 0 0, .slice none 0 0, .int .i64 0, .slice none 0 0, .slice none 0 0, .slice none 0 0, .slice none 0 0, .slice none 0 0, .int .i64 0], .int .u8 0, .int .u16 0], []⟩ 8 (by kernel_rfl) (by kernel_rfl) (by kernel_rfl) (by kernel_rfl))
    (by kernel_rfl) rfl Try.underlying4 rfl (fun ds h => match ds, h with | [_, _, _, _], _ => rfl) ?_
  intro W base args ds gs before hval hW hwt hsh
  have hW' := hW
  obtain ⟨p, q, hA0, hV, rfl, hfz, hnd⟩ := hW
  have hA : DataW.TrodAll enc Try.prog W 0 (fun _ => true) true Try.f3.params.toList args.toList ds p := hA0
  rw [Try.params3] at hA hval
  obtain ⟨v0, vs0, d0, ds0, p0, q0, hargs, rfl, rfl, h0, r0⟩ := trodAll_cons hA
  obtain ⟨v1, vs1, d1, ds1, p1, q1, rfl, rfl, rfl, h1, r1⟩ := trodAll_cons r0
  obtain ⟨v2, vs2, d2, ds2, p2, q2, rfl, rfl, rfl, h2, r2⟩ := trodAll_cons r1
  obtain ⟨v3, vs3, d3, ds3, p3, q3, rfl, rfl, rfl, h3, r3⟩ := trodAll_cons r2
  obtain ⟨rfl, rfl, rfl⟩ := trodAll_nil r3
  obtain rfl : args = #[v0, v1, v2, v3] := by cases args; simp_all
  obtain ⟨l, hl⟩ := open_acts Try.underlying22 (hval 0 22 v0 rfl rfl) h0
  obtain ⟨m, vs, sl, rfl, him⟩ := open_img (hval 1 39 v1 rfl rfl) h1
  obtain ⟨d, hd, hok, rfl, _, _⟩ := him.data
  rw [hd]
  obtain ⟨x, rfl, rfl, rfl, wx⟩ := open_int Try.underlying5 (hval 2 5 v2 rfl rfl) h2
  obtain ⟨y, rfl, rfl, rfl, wy⟩ := open_int Try.underlying40 (hval 3 40 v3 rfl rfl) h3
  have rx : 0 ≤ x ∧ x ≤ 255 := by have h := wx; simp [Lit.wf, IntKind.min, IntKind.max, IntKind.signed, IntKind.bits] at h; omega
  have ry : 0 ≤ y ∧ y ≤ 65535 := by have h := wy; simp [Lit.wf, IntKind.min, IntKind.max, IntKind.signed, IntKind.bits] at h; omega
  exact stands15_walk v0 l d W hl hok x y rx.1 rx.2 ry.1 ry.2

set_option maxRecDepth 100000 in
theorem over : Rows.placeStandsRow.holds Try.pinned (OpenSpec.ofChange Rows.placeStandsSpec) :=
  OpenClaim.holds_of_wide 3 Try.f3 rfl rfl rfl rfl rfl rfl rfl ⟨rfl, rfl, rfl, rfl, rfl⟩ rfl rfl rfl rfl rfl (by kernel_rfl) Try.func3 (by kernel_rfl)
    (of_decide_eq_true (by kernel_rfl)) (by unfold Func.isWrapper; first | (rw [if_pos (by decide +kernel)]; kernel_rfl) | (rw [if_neg (by decide +kernel)]; exact ⟨rfl, rfl⟩))
    (fun os started H enc _ => lifted os started H enc)

/-- THE STATEMENT -/
theorem proved : Rows.PlaceStandsSaid := over
#print axioms proved
end placeStands

end Go.Proofs.Ytlkelfaokbdddaa
