/-
  Layer 4: the law CodeBack: its walk.
  Conditions: none. (My own text.)
-/
import Derived.Test.YtmbacegbcccdjaaDoorKnq
namespace Go.Proofs.YtmbacegbcccdjaaDoor
open Go.RowKit Spm
set_option linter.unusedVariables false
set_option linter.unusedSimpArgs false

open Go.Lib hiding intOf
attribute [local irreducible] wpList
theorem all_cases (is : List Ins) : (is.all mayS = true ∧ encodeS is = some (is.flatMap encS) ∧ printI is = some (textS is)) ∨ (encodeS is = none ∧ printI is = none) := by
  unfold encodeS printI
  by_cases h : is.all mayS = true
  · exact .inl ⟨h, if_pos h, if_pos h⟩
  · exact .inr ⟨if_neg h, if_neg h⟩
set_option maxRecDepth 100000 in
set_option maxHeartbeats 4000000 in
theorem back_walk04 (v0 : Value) (is : List Ins) (hsz : is.length ≤ 1048576) (w : World) (hr : RowsAt 5 Ins.cells w (fun k => k < w.heap.size) v0 is) (hL : LaidW w) :
    Calls Tryd.prog 9 #[v0] w fun e w' => e = .returned (.bool true) ∧ Below w.heap.size w w' := by
  have HL := Lib.hid (fun (X : World) (hb : Below w.heap.size w X) => hL.below hb)
  clear hL
  have C1 := Lib.hid (awake04 w (HL.out w (Below.refl _ _)))
  obtain ⟨A, c, hv0, _⟩ := id hr
  subst hv0
  have HR := Lib.hid (fun (X : World) (hb : Below w.heap.size w X) => hr.lift hb hb.size)
  have HAC := Lib.hid (all_cases is)
  clear hr
  go_enter Tryd.func9, Tryd.ntmps9
  go_wp2_with fail
  refine (C1.out).mono ?_
  rintro e w1 ⟨rfl, hb1⟩
  have B1 := Lib.hid hb1
  clear hb1 C1
  rcases HAC.out with ⟨hall, ea, pa⟩ | ⟨ea, pa⟩
  · have HEA := Lib.hid ea
    have HPA := Lib.hid pa
    have HALL := Lib.hid hall
    clear ea pa hall
    have C2 := Lib.hid (encode_any is (by first | omega | (rw [List.length_append]; omega)) (.slice A is.length c) w1 (HR.out w1 B1.out))
    rw [HEA.out] at C2
    go_wp2_with fail
    refine (C2.out).mono ?_
    rintro e w2 ⟨he2, hb2⟩
    obtain ⟨v2, rfl, hv2⟩ := he2
    have O2 := Lib.hid hv2
    clear hv2
    have B2 : Hid (Below w.heap.size w w2) := Lib.hid (B1.out.trans (hb2.mono B1.out.size))
    have K2 : Hid (Below w1.heap.size w1 w2) := Lib.hid hb2
    clear hb2 C2

    have C3 := Lib.hid (print_any is (by first | omega | (rw [List.length_append]; omega)) (.slice A is.length c) w2 (HR.out w2 B2.out) (HL.out w2 B2.out))
    rw [HPA.out] at C3
    go_wp2_with fail
    refine (C3.out).mono ?_
    rintro e w3 ⟨he3, hb3⟩
    have he3' : e = .returned (.tuple #[.string ⟨(textS is).toArray⟩, .int .i64 0]) := he3
    subst he3'
    clear he3
    have B3 : Hid (Below w.heap.size w w3) := Lib.hid (B2.out.trans (hb3.mono B2.out.size))
    have K3 : Hid (Below w2.heap.size w2 w3) := Lib.hid hb3
    clear hb3 C3

    have P2 : Hid (Bys w3 w1.heap.size v2 (is.flatMap encS)) := Lib.hid (owns_block O2.out (fun g hg => K3.out.block g (O2.out.lt g hg).2))
    obtain ⟨A2, c2, hv2, hc1, hc2, hsrc⟩ := Bys.src' P2.out
    have hel := encs_len is
    have HDL := Lib.hid (decL_enc HALL.out)
    have C4 := Lib.hid (decode_any A2 c2 (is.flatMap encS) (by omega) hc1 hc2 w3 hsrc)
    rw [hel] at hv2 C4
    rw [hv2]
    clear hc1 hc2 hsrc P2 O2 hv2
    go_wp2_with fail
    refine (C4.out).mono ?_
    rintro e w4 ⟨h4, hb4⟩
    have B4 : Hid (Below w.heap.size w w4) := Lib.hid (B3.out.trans (hb4.mono B3.out.size))
    clear hb4 C4 K3 K2
    rcases h4 with ⟨-, v4, rfl, ho⟩ | ⟨hd, rfl⟩
    case inr => exact absurd HDL.out.2 hd
    have RL4 : Hid (RowsAt 5 Ins.cells w4 (fun k => k < w4.heap.size) v4 is) := Lib.hid (by
      have e1 : insRow (is.flatMap encS) ((is.flatMap encS).length / 8) = is.flatMap Ins.cells := by rw [insRow_dec, HDL.out.1]
      rw [hel] at e1
      have e2 : 8 * is.length / 8 = is.length := by omega
      rw [e2] at e1
      rw [hel, e2] at ho
      rw [e1] at ho
      exact rows_own ho)
    clear ho
    have hts : (⟨(textS is).toArray⟩ : ByteArray).size ≤ 134217728 := by
      have e1 := text_len HALL.out
      have e2 : (⟨(textS is).toArray⟩ : ByteArray).size = (textS is).length := by simp [ByteArray.size]
      omega
    have C5 := Lib.hid (parse_any ⟨(textS is).toArray⟩ hts w4 (HL.out w4 B4.out))
    rw [show (⟨(textS is).toArray⟩ : ByteArray).data.toList = textS is by simp, parse_text HALL.out] at C5
    clear hts
    go_wp2_with fail
    refine (C5.out).mono ?_
    rintro e w5 ⟨⟨v5, rfl, hv5⟩, hb5⟩
    have B5 : Hid (Below w.heap.size w w5) := Lib.hid (B4.out.trans (hb5.mono B4.out.size))
    have RL5 : Hid (RowsAt 5 Ins.cells w5 (fun k => k < w5.heap.size) v5 is) := Lib.hid (rows_own hv5)
    have RL45 := Lib.hid (RL4.out.lift hb5 hb5.size)
    clear hv5 hb5 C5 RL4
    have C6 := Lib.hid (same04 v4 (.slice A is.length c) is _ _ w5 RL45.out (HR.out w5 B5.out))
    have C7 := Lib.hid (fun (X : World) (hb : Below w5.heap.size w5 X) => same04 v5 (.slice A is.length c) is _ _ X (RL5.out.lift hb hb.size) (HR.out X (B5.out.trans (hb.mono B5.out.size))))
    have hi8 : IntKind.i64.wrap (8 * (is.length : Int)) = 8 * (is.length : Int) := by rw [IntKind.wrap_i64]; omega
    clear hel HALL HDL HEA HPA HAC RL5 RL45
    go_wp2_with fail
    refine (C6.out).mono ?_
    rintro e w6 ⟨rfl, hb6⟩
    have B6 : Hid (Below w.heap.size w w6) := Lib.hid (B5.out.trans (hb6.mono B5.out.size))
    have C8 := Lib.hid (C7.out w6 hb6)
    clear hb6 C6 C7
    go_wp2_with fail
    refine (C8.out).mono ?_
    rintro e w7 ⟨rfl, hb7⟩
    have B7 : Hid (Below w.heap.size w w7) := Lib.hid (B6.out.trans (hb7.mono B6.out.size))
    clear hb7 C8
    go_wp2_with fail
    go_ret
    exact ⟨by first | rfl | simp, B7.out⟩
  · have HEA := Lib.hid ea
    have HPA := Lib.hid pa
    clear ea pa
    have C2 := Lib.hid (encode_any is (by first | omega | (rw [List.length_append]; omega)) (.slice A is.length c) w1 (HR.out w1 B1.out))
    rw [HEA.out] at C2
    go_wp2_with fail
    refine (C2.out).mono ?_
    rintro e w2 ⟨he2, hb2⟩
    have he2' : e = .returned (.tuple #[.slice none 0 0, .int .i64 40]) := he2
    subst he2'
    clear he2
    have B2 : Hid (Below w.heap.size w w2) := Lib.hid (B1.out.trans (hb2.mono B1.out.size))
    have K2 : Hid (Below w1.heap.size w1 w2) := Lib.hid hb2
    clear hb2 C2

    have C3 := Lib.hid (print_any is (by first | omega | (rw [List.length_append]; omega)) (.slice A is.length c) w2 (HR.out w2 B2.out) (HL.out w2 B2.out))
    rw [HPA.out] at C3
    go_wp2_with fail
    refine (C3.out).mono ?_
    rintro e w3 ⟨he3, hb3⟩
    have he3' : e = .returned (.tuple #[.string ⟨#[]⟩, .int .i64 40]) := he3
    subst he3'
    clear he3
    have B3 : Hid (Below w.heap.size w w3) := Lib.hid (B2.out.trans (hb3.mono B2.out.size))
    have K3 : Hid (Below w2.heap.size w2 w3) := Lib.hid hb3
    clear hb3 C3

    go_wp2_with fail
    go_ret
    exact ⟨by first | rfl | simp, B3.out⟩
end Go.Proofs.YtmbacegbcccdjaaDoor
