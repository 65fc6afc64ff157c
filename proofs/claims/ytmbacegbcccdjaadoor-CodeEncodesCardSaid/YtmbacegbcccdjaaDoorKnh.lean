/-
  Layer 4: awake: it holds.
  Conditions: none. (My own text.)
-/
import Derived.Test.YtmbacegbcccdjaaDoorKnf
import Derived.Test.YtmbacegbcccdjaaDoorKng
namespace Go.Proofs.YtmbacegbcccdjaaDoor
open Go.RowKit Spm
set_option linter.unusedVariables false
set_option linter.unusedSimpArgs false

open Go.Lib hiding intOf
attribute [local irreducible] wpList
theorem aw_enc : encodeS [⟨1, 1, 0, 0, -2⟩] = some [1, 1, 0, 0, 254, 255, 255, 255] := by decide +kernel
set_option maxRecDepth 100000 in
theorem aw_one : parseS (⟨#[97, 100, 100, 32, 114, 49, 32, 114, 50, 32, 114, 49, 54]⟩ : ByteArray).data.toList = ([], 1, 41) := by kernel_rfl
set_option maxRecDepth 100000 in
theorem aw_two : parseS (⟨#[104, 97, 108, 116, 10, 111, 117, 116, 32, 114, 51]⟩ : ByteArray).data.toList = ([⟨0, 0, 0, 0, 0⟩, ⟨19, 3, 0, 0, 0⟩], 0, 0) := by kernel_rfl
set_option maxRecDepth 100000 in
set_option maxHeartbeats 4000000 in
theorem awake04 (w : World) (hL : LaidW w) : Calls Tryd.prog 11 #[] w fun e w' => e = .returned (.bool true) ∧ Below w.heap.size w w' := by
  have HL := Lib.hid (fun (X : World) (hb : Below w.heap.size w X) => hL.below hb)
  clear hL
  have B1 : Hid (Below w.heap.size w (w.alloc (.cells #[.int .i64 1, .int .i64 1, .int .i64 0, .int .i64 0, .int .i64 (-2)] 39))) := Lib.hid ((Below.refl _ _).alloc (Nat.le_refl _) _)
  have C1 := Lib.hid (encode_any [⟨1, 1, 0, 0, -2⟩] (by decide) (.slice (some ⟨w.heap.size, 0, none⟩) 1 1) (w.alloc (.cells #[.int .i64 1, .int .i64 1, .int .i64 0, .int .i64 0, .int .i64 (-2)] 39)) ⟨some ⟨w.heap.size, 0, none⟩, 1, rfl, Nat.le_refl _, by unfold maxLen; omega, fun i x hx => ⟨w.heap.size, 0, rfl, by simp, by simp, fun j u hu => by
    match i, hx with
    | 0, hx =>
      obtain rfl : (⟨1, 1, 0, 0, -2⟩ : Ins) = x := by simpa using hx
      rw [World.cell?_alloc_at _ _ _ _ rfl]
      simpa [Ins.cells] using hu
    | i + 1, hx => simp at hx⟩⟩)
  go_enter Tryd.func11, Tryd.ntmps11
  go_wp2_with fail
  refine (C1.out).mono ?_
  rintro e w2 ⟨he, hb2⟩
  rw [aw_enc] at he
  obtain ⟨v1, rfl, hv1⟩ := he
  have O2 := Lib.hid hv1
  have B2 : Hid (Below w.heap.size w w2) := Lib.hid (B1.out.trans (hb2.mono B1.out.size))
  clear hv1 hb2 C1 B1
  have C2 := Lib.hid (parse_any ⟨#[97, 100, 100, 32, 114, 49, 32, 114, 50, 32, 114, 49, 54]⟩ (by decide) w2 (HL.out w2 B2.out))
  rw [aw_one] at C2
  go_wp2_with fail
  refine (C2.out).mono ?_
  rintro e w3 ⟨⟨v2, rfl, hv2⟩, hb3⟩
  have hlt2 := O2.out.lt
  have O3 := Lib.hid (owns_block O2.out (fun g hg => hb3.block g (hlt2 g hg).2))
  have B3 : Hid (Below w.heap.size w w3) := Lib.hid (B2.out.trans (hb3.mono B2.out.size))
  clear hv2 hb3 C2 B2 O2 hlt2
  have C3 := Lib.hid (parse_any ⟨#[104, 97, 108, 116, 10, 111, 117, 116, 32, 114, 51]⟩ (by decide) w3 (HL.out w3 B3.out))
  rw [aw_two] at C3
  go_wp2_with fail
  refine (C3.out).mono ?_
  rintro e w4 ⟨⟨v3, rfl, hv3⟩, hb4⟩
  have hlt3 := O3.out.lt
  have O4 := Lib.hid (owns_block O3.out (fun g hg => hb4.block g (hlt3 g hg).2))
  have B4 : Hid (Below w.heap.size w w4) := Lib.hid (B3.out.trans (hb4.mono B3.out.size))
  clear hb4 C3 B3 O3 hlt3
  have cv := Bys.conv (show Bys w4 _ v1 [1, 1, 0, 0, 254, 255, 255, 255] from O4.out)
  obtain ⟨g3, c3, rfl, -, -⟩ := hv3.form (by decide)
  have y0 : w4.cell? ⟨g3, 5, none⟩ = some (.int .i64 19) := by rw [hv3.cellAt 5 (by decide)]; rfl
  have y1 : w4.cell? ⟨g3, 6, none⟩ = some (.int .i64 3) := by rw [hv3.cellAt 6 (by decide)]; rfl
  have y2 : w4.cell? ⟨g3, 7, none⟩ = some (.int .i64 0) := by rw [hv3.cellAt 7 (by decide)]; rfl
  have y3 : w4.cell? ⟨g3, 8, none⟩ = some (.int .i64 0) := by rw [hv3.cellAt 8 (by decide)]; rfl
  have y4 : w4.cell? ⟨g3, 9, none⟩ = some (.int .i64 0) := by rw [hv3.cellAt 9 (by decide)]; rfl
  have hq : (strB [1, 1, 0, 0, 254, 255, 255, 255]).toList = [1, 1, 0, 0, 254, 255, 255, 255] := by rw [toList_data]; rfl
  clear hv3
  simp only [List.length_cons, List.length_nil]
  go_wp2_with fail
  go_ret
  exact ⟨rfl, B4.out⟩
end Go.Proofs.YtmbacegbcccdjaaDoor
