/-
  Layer 4: the law CodeForm: its walk.
  Conditions: none. (My own text.)
-/
import Derived.Test.YtmbacegbcccdjaaDoorKpa
import Derived.Test.YtmbacegbcccdjaaDoorKfr
namespace Go.Proofs.YtmbacegbcccdjaaDoor
open Go.RowKit Spm
set_option linter.unusedVariables false
set_option linter.unusedSimpArgs false

open Go.Lib hiding intOf
attribute [local irreducible] wpList
theorem text_ge (is : List Ins) : is.length ≤ (textS is).length := by
  unfold textS
  induction is with
  | nil => simp
  | cons i is ih => rw [List.flatMap_cons, List.length_append, List.length_append, List.length_cons]; simp only [List.length_cons, List.length_nil]; omega
theorem mk_str {l : List UInt8} {s : ByteArray} (h : l = s.data.toList) : (⟨l.toArray⟩ : ByteArray) = s := (str_eq l s).2 h
theorem mk_str1 {l : List UInt8} {s : ByteArray} (h : l = s.data.toList ++ [10]) : (⟨l.toArray⟩ : ByteArray) = s ++ ⟨#[10]⟩ := by
  refine (str_eq l _).2 ?_
  rw [h, ByteArray.data_append]
  simp
set_option maxRecDepth 100000 in
set_option maxHeartbeats 4000000 in
theorem form_walk (A : Option Addr) (c : Nat) (b : List UInt8) (hbl : b.length ≤ 1048576) (hbc : b.length ≤ c) (hcm : c ≤ maxLen) (s : ByteArray) (hs : s.size ≤ 1048576) (w : World) (hba : BytesAt w w.heap.size A b) (hL : LaidW w) :
    Calls Tryd.prog 10 #[.slice A b.length c, .string s] w fun e w' => e = .returned (.bool true) ∧ Below w.heap.size w w' := by
  have HL := Lib.hid (fun (X : World) (hb : Below w.heap.size w X) => hL.below hb)
  clear hL
  have C1 := Lib.hid (awake04 w (HL.out w (Below.refl _ _)))
  have HBA := Lib.hid hba
  have HPC := Lib.hid (parse_cases s.data.toList)
  clear hba
  go_enter Tryd.func10, Tryd.ntmps10
  go_wp2_with fail
  refine (C1.out).mono ?_
  rintro e w1 ⟨rfl, hb1⟩
  have B1 := Lib.hid hb1
  have C2 := Lib.hid (decode_any A c b (by omega) hbc hcm w1 (HBA.out.src B1.out))
  clear hb1 C1
  go_wp2_with fail
  refine (C2.out).mono ?_
  rintro e w2 ⟨h2, hb2⟩
  have B2 : Hid (Below w.heap.size w w2) := Lib.hid (B1.out.trans (hb2.mono B1.out.size))
  clear hb2 C2
  rcases h2 with ⟨hd, v, rfl, ho⟩ | ⟨hd, rfl⟩
  · rw [insRow_dec] at ho
    have hl : (decL b).length = b.length / 8 := by unfold decL; simp
    rw [← hl] at ho
    have C3 := Lib.hid (encode_any (decL b) (by omega) v w2 (rows_own ho))
    rw [enc_decL hd] at C3
    clear ho hl hd
    go_wp2_with fail
    refine (C3.out).mono ?_
    rintro e w3 ⟨he, hb3⟩
    obtain ⟨v3, rfl, hv3⟩ := he
    have B3 : Hid (Below w.heap.size w w3) := Lib.hid (B2.out.trans (hb3.mono B2.out.size))
    have cv1 := Bys.conv (show Bys w3 _ v3 b from hv3)
    have cv2 := conv_src (c := c) (HBA.out.src B3.out)
    clear hv3 hb3 C3
    have C4 := Lib.hid (parse_any s (by omega) w3 (HL.out w3 B3.out))
    rcases HPC.out with ⟨n, hn1, hP⟩ | ⟨is, hP, hall, ht⟩
    · rw [hP] at C4
      have hnI : (1 : Int) ≤ (n : Int) := by omega
      go_wp2_with fail
      refine (C4.out).mono ?_
      rintro e w4 ⟨⟨v4, rfl, hv4⟩, hb4⟩
      have B4 : Hid (Below w.heap.size w w4) := Lib.hid (B3.out.trans (hb4.mono B3.out.size))
      obtain ⟨A4, c4, hv⟩ := owns_shape hv4
      subst hv
      clear hv4 hb4 C4 hP
      simp only [List.length_nil]
      go_wp2_with fail
      go_ret
      exact ⟨rfl, B4.out⟩
    · rw [hP] at C4
      go_wp2_with fail
      refine (C4.out).mono ?_
      rintro e w4 ⟨⟨v4, rfl, hv4⟩, hb4⟩
      have B4 : Hid (Below w.heap.size w w4) := Lib.hid (B3.out.trans (hb4.mono B3.out.size))
      have hlen : is.length ≤ 1073741824 := by
        have h1 := text_ge is
        have h2 := size_eq s
        rcases ht with h | h
        · have h3 := congrArg List.length h
          omega
        · have h3 := congrArg List.length h
          simp only [List.length_append, List.length_cons, List.length_nil] at h3
          omega
      have C5 := Lib.hid (print_any is hlen v4 w4 (rows_own hv4) (HL.out w4 B4.out))
      rw [show printI is = some (textS is) by unfold printI; rw [if_pos hall]] at C5
      have HV4 := Lib.hid hv4
      have HT := Lib.hid ht
      clear hv4 hb4 C4 hP hlen hall ht
      go_wp2_with fail
      refine (C5.out).mono ?_
      rintro e w5 ⟨he, hb5⟩
      have he2 : e = .returned (.tuple #[.string ⟨(textS is).toArray⟩, .int .i64 0]) := he
      subst he2
      have B5 : Hid (Below w.heap.size w w5) := Lib.hid (B4.out.trans (hb5.mono B4.out.size))
      clear he hb5 C5
      rcases HT.out with h | h
      · rw [mk_str h]
        clear h
        go_wp2_with fail
        go_ret
        exact ⟨by first | rfl | simp, B5.out⟩
      · rw [mk_str1 h]
        clear h
        have h1 : ((s ++ (⟨#[10]⟩ : ByteArray)).toList == s.toList) = false := beq_eq_false_iff_ne.2 (fun e => by
          have := congrArg List.length e
          rw [toList_data, toList_data, ByteArray.data_append] at this
          simp at this)
        have h2 : s.size + 1 ≤ 9223372036854775807 := by omega
        go_wp2_with fail
        go_ret
        exact ⟨by first | rfl | simp, B5.out⟩
  · clear hd
    have C4 := Lib.hid (parse_any s (by omega) w2 (HL.out w2 B2.out))
    rcases HPC.out with ⟨n, hn1, hP⟩ | ⟨is, hP, hall, ht⟩
    · rw [hP] at C4
      have hnI : (1 : Int) ≤ (n : Int) := by omega
      go_wp2_with fail
      refine (C4.out).mono ?_
      rintro e w4 ⟨⟨v4, rfl, hv4⟩, hb4⟩
      have B4 : Hid (Below w.heap.size w w4) := Lib.hid (B2.out.trans (hb4.mono B2.out.size))
      obtain ⟨A4, c4, hv⟩ := owns_shape hv4
      subst hv
      clear hv4 hb4 C4 hP
      simp only [List.length_nil]
      go_wp2_with fail
      go_ret
      exact ⟨rfl, B4.out⟩
    · rw [hP] at C4
      go_wp2_with fail
      refine (C4.out).mono ?_
      rintro e w4 ⟨⟨v4, rfl, hv4⟩, hb4⟩
      have B4 : Hid (Below w.heap.size w w4) := Lib.hid (B2.out.trans (hb4.mono B2.out.size))
      have hlen : is.length ≤ 1073741824 := by
        have h1 := text_ge is
        have h2 := size_eq s
        rcases ht with h | h
        · have h3 := congrArg List.length h
          omega
        · have h3 := congrArg List.length h
          simp only [List.length_append, List.length_cons, List.length_nil] at h3
          omega
      have C5 := Lib.hid (print_any is hlen v4 w4 (rows_own hv4) (HL.out w4 B4.out))
      rw [show printI is = some (textS is) by unfold printI; rw [if_pos hall]] at C5
      have HV4 := Lib.hid hv4
      have HT := Lib.hid ht
      clear hv4 hb4 C4 hP hlen hall ht
      go_wp2_with fail
      refine (C5.out).mono ?_
      rintro e w5 ⟨he, hb5⟩
      have he2 : e = .returned (.tuple #[.string ⟨(textS is).toArray⟩, .int .i64 0]) := he
      subst he2
      have B5 : Hid (Below w.heap.size w w5) := Lib.hid (B4.out.trans (hb5.mono B4.out.size))
      clear he hb5 C5
      rcases HT.out with h | h
      · rw [mk_str h]
        clear h
        go_wp2_with fail
        go_ret
        exact ⟨by first | rfl | simp, B5.out⟩
      · rw [mk_str1 h]
        clear h
        have h1 : ((s ++ (⟨#[10]⟩ : ByteArray)).toList == s.toList) = false := beq_eq_false_iff_ne.2 (fun e => by
          have := congrArg List.length e
          rw [toList_data, toList_data, ByteArray.data_append] at this
          simp at this)
        have h2 : s.size + 1 ≤ 9223372036854775807 := by omega
        go_wp2_with fail
        go_ret
        exact ⟨by first | rfl | simp, B5.out⟩
end Go.Proofs.YtmbacegbcccdjaaDoor
