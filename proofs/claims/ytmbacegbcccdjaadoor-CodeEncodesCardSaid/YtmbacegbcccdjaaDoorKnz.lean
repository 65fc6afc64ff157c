/-
  Layer 4: Owned of two lists of bytes; the walk of CodeEncodes.
  Conditions: none. (My own text.)
-/
import Derived.Test.YtmbacegbcccdjaaDoorKny
import Derived.Test.YtmbacegbcccdjaaDoorSdp
namespace Go.Proofs.YtmbacegbcccdjaaDoor
open Go.RowKit Spm
set_option linter.unusedVariables false
set_option linter.unusedSimpArgs false

open Go.Lib hiding intOf
attribute [local irreducible] wpList
theorem owned_two {w : World} {v1 v2 : Value} {l1 l2 : List UInt8} (b1 : Bys w 0 v1 l1) (b2 : Bys w 0 v2 l2) (x12 : ∀ b, v1.ownBlock = some b → v2.ownBlock ≠ some b) (h1 : l1.length ≤ 35184372088832) (h2 : l2.length ≤ 35184372088832) :
    Calls Tryd.prog 25 #[.slice (some ⟨w.heap.size, 0, none⟩) 2 2] (w.alloc (.cells #[v1, v2] 31)) fun e w' => e = .returned (.bool true) ∧ Keeps (fun b => v1.ownBlock = some b ∨ v2.ownBlock = some b) w w' := by
  have hbel : Below w.heap.size w (w.alloc (.cells #[v1, v2] 31)) := (Below.refl _ _).alloc (Nat.le_refl _) _
  have n1 := b1.lt
  have n2 := b2.lt
  have hcase : ∀ (j : Nat) (q : Value × List UInt8), [(v1, l1), (v2, l2)][j]? = some q → (j = 0 ∧ q = (v1, l1)) ∨ (j = 1 ∧ q = (v2, l2)) := fun j q hq => by
    match j, hq with
    | 0, hq => simp at hq; exact .inl ⟨rfl, hq.symm⟩
    | 1, hq => simp at hq; exact .inr ⟨rfl, hq.symm⟩
    | j + 2, hq => simp at hq
  have key := owned_any w.heap.size 2 [(v1, l1), (v2, l2)] (by simp) (w.alloc (.cells #[v1, v2] 31)) (by
      have := Blk.new w 31 #[v1, v2]
      simpa using this) ⟨by simp, fun j q hq => ?_, fun j q hq b hb => ?_, fun i j q q' hi hj hij b hb hb' => ?_⟩ (fun j q hq => ?_) (fun j q hq => ?_)
  · refine key.mono fun e w' ⟨he, hk⟩ => ⟨he, ?_⟩
    exact (Keeps.of_below hbel).trans hk (fun i ⟨q, hq, hqi⟩ => by
      simp only [List.mem_cons, List.not_mem_nil, or_false] at hq
      rcases hq with rfl | rfl
      · exact .inl (.inl hqi)
      · exact .inl (.inr hqi))
  · rcases hcase j q hq with ⟨_, rfl⟩ | ⟨_, rfl⟩
    · exact fun e => by have := (n1 _ e).2; omega
    · exact fun e => by have := (n2 _ e).2; omega
  · rcases hcase j q hq with ⟨_, rfl⟩ | ⟨_, rfl⟩
    · have := (n1 _ hb).2; simp; omega
    · have := (n2 _ hb).2; simp; omega
  · rcases hcase i q hi with ⟨rfl, rfl⟩ | ⟨rfl, rfl⟩ <;> rcases hcase j q' hj with ⟨rfl, rfl⟩ | ⟨rfl, rfl⟩
    · exact hij rfl
    · exact x12 b hb hb'
    · exact x12 b hb' hb
    · exact hij rfl
  · rcases hcase j q hq with ⟨_, rfl⟩ | ⟨_, rfl⟩
    · exact owns_block b1 (fun g hg => hbel.block g (n1 g hg).2)
    · exact owns_block b2 (fun g hg => hbel.block g (n2 g hg).2)
  · rcases hcase j q hq with ⟨_, rfl⟩ | ⟨_, rfl⟩
    · exact h1
    · exact h2
set_option maxRecDepth 100000 in
set_option maxHeartbeats 4000000 in
theorem encodes_walk (v0 : Value) (is : List Ins) (hsz : is.length ≤ 3518437208832) (w : World) (hr : RowsAt 5 Ins.cells w (fun k => k < w.heap.size) v0 is) (hL : LaidW w) :
    Calls Tryd.prog 7 #[v0] w fun e w' => e = .returned (.bool true) ∧ Below w.heap.size w w' := by
  have HL := Lib.hid (fun (X : World) (hb : Below w.heap.size w X) => hL.below hb)
  clear hL
  have C1 := Lib.hid (awake04 w (HL.out w (Below.refl _ _)))
  obtain ⟨A, c, hv0, hlc, hcm, hrow⟩ := id hr
  subst hv0
  have HRW := Lib.hid hrow
  have HR := Lib.hid (fun (X : World) (hb : Below w.heap.size w X) => hr.lift hb hb.size)
  have hlm : is.length ≤ 9223372036854775807 := by omega
  have hac : (is.all mayS = true ∧ encodeS is = some (is.flatMap encS) ∧ printI is = some (textS is)) ∨ (encodeS is = none ∧ printI is = none) := by
    unfold encodeS printI
    by_cases h : is.all mayS = true
    · exact .inl ⟨h, if_pos h, if_pos h⟩
    · exact .inr ⟨if_neg h, if_neg h⟩
  have HAC := Lib.hid hac
  clear hr hrow hac hlc hcm
  go_enter Tryd.func7, Tryd.ntmps7
  go_wp2_with fail
  refine (C1.out).mono ?_
  rintro e w1 ⟨rfl, hb1⟩
  have B1 := Lib.hid hb1
  clear hb1 C1
  rcases HAC.out with ⟨hall, ea, pa⟩ | ⟨ea, pa⟩
  · have HEA := Lib.hid ea
    have HPA := Lib.hid pa
    clear ea pa hall
    have C2 := Lib.hid (encode_any is (by first | omega | (rw [List.length_append]; omega)) (.slice A is.length c) w1 (HR.out w1 B1.out))
    rw [HEA.out] at C2
    go_wp2_with fail
    refine (C2.out).mono ?_
    rintro e w2 ⟨he2, hb2⟩
    obtain ⟨v2, rfl, hv2⟩ := he2
    have O2 := Lib.hid hv2
    clear hv2
    have B2 : Hid (Below w.heap.size w w2) := Lib.hid (B1.out.trans (hb2.mono B1.out.size))
    have K2 : Hid (Below w1.heap.size w1 w2) := Lib.hid hb2
    clear hb2 C2
    have C3 := Lib.hid (encode_any is (by first | omega | (rw [List.length_append]; omega)) (.slice A is.length c) w2 (HR.out w2 B2.out))
    rw [HEA.out] at C3
    go_wp2_with fail
    refine (C3.out).mono ?_
    rintro e w3 ⟨he3, hb3⟩
    obtain ⟨v3, rfl, hv3⟩ := he3
    have O3 := Lib.hid hv3
    clear hv3
    have B3 : Hid (Below w.heap.size w w3) := Lib.hid (B2.out.trans (hb3.mono B2.out.size))
    have K3 : Hid (Below w2.heap.size w2 w3) := Lib.hid hb3
    clear hb3 C3
    have C4 := Lib.hid (rencode_any is (by first | omega | (rw [List.length_append]; omega)) (.slice A is.length c) w3 (HR.out w3 B3.out))
    rw [HEA.out] at C4
    go_wp2_with fail
    refine (C4.out).mono ?_
    rintro e w4 ⟨he4, hb4⟩
    obtain ⟨v4, rfl, hv4⟩ := he4
    have O4 := Lib.hid hv4
    clear hv4
    have B4 : Hid (Below w.heap.size w w4) := Lib.hid (B3.out.trans (hb4.mono B3.out.size))
    have K4 : Hid (Below w3.heap.size w3 w4) := Lib.hid hb4
    clear hb4 C4
    have C5 := Lib.hid (print_any is (by first | omega | (rw [List.length_append]; omega)) (.slice A is.length c) w4 (HR.out w4 B4.out) (HL.out w4 B4.out))
    rw [HPA.out] at C5
    go_wp2_with fail
    refine (C5.out).mono ?_
    rintro e w5 ⟨he5, hb5⟩
    have he5' : e = .returned (.tuple #[.string ⟨(textS is).toArray⟩, .int .i64 0]) := he5
    subst he5'
    clear he5
    have B5 : Hid (Below w.heap.size w w5) := Lib.hid (B4.out.trans (hb5.mono B4.out.size))
    have K5 : Hid (Below w4.heap.size w4 w5) := Lib.hid hb5
    clear hb5 C5
    have C6 := Lib.hid (rprint_any is (by first | omega | (rw [List.length_append]; omega)) (.slice A is.length c) w5 (HR.out w5 B5.out) (HL.out w5 B5.out))
    rw [HPA.out] at C6
    go_wp2_with fail
    refine (C6.out).mono ?_
    rintro e w6 ⟨he6, hb6⟩
    have he6' : e = .returned (.tuple #[.string ⟨(textS is).toArray⟩, .int .i64 0]) := he6
    subst he6'
    clear he6
    have B6 : Hid (Below w.heap.size w w6) := Lib.hid (B5.out.trans (hb6.mono B5.out.size))
    have K6 : Hid (Below w5.heap.size w5 w6) := Lib.hid hb6
    clear hb6 C6

    obtain ⟨la, hla⟩ : ∃ la, is.flatMap encS = la := ⟨_, rfl⟩
    have hll : la.length ≤ 35184372088832 := by rw [← hla, encs_len]; omega
    rw [hla] at O2 O3 O4
    obtain ⟨A2, c2, hv2⟩ := owns_shape O2.out
    obtain ⟨A3, c3, hv3⟩ := owns_shape O3.out
    subst hv2 hv3
    have HLA := Lib.hid hll
    have HLB := Lib.hid hll
    have K46 : Hid (Below w4.heap.size w4 w6) := Lib.hid (K5.out.trans (K6.out.mono K5.out.size))
    have K36 : Hid (Below w3.heap.size w3 w6) := Lib.hid (K4.out.trans (K46.out.mono K4.out.size))
    have K26 : Hid (Below w2.heap.size w2 w6) := Lib.hid (K3.out.trans (K36.out.mono K3.out.size))
    have Q2 := Lib.hid (owns_block O2.out (fun g hg => K26.out.block g (O2.out.lt g hg).2))
    have Q3 := Lib.hid (owns_block O3.out (fun g hg => K36.out.block g (O3.out.lt g hg).2))
    have Q4 := Lib.hid (owns_block O4.out (fun g hg => K46.out.block g (O4.out.lt g hg).2))
    have HX : Hid (∀ b, (Value.slice A2 la.length c2).ownBlock = some b → (Value.slice A3 la.length c3).ownBlock ≠ some b) := Lib.hid (fun b h2 h3 => by
      have e1 := (O2.out.lt b h2).2
      have e2 := (O3.out.lt b h3).1
      omega)
    have HOB : Hid (∀ b, (Value.slice A2 la.length c2).ownBlock = some b ∨ (Value.slice A3 la.length c3).ownBlock = some b → w.heap.size ≤ b) := Lib.hid (fun b hb => by
      rcases hb with h | h
      · have e1 := (O2.out.lt b h).1
        have e2 := B1.out.size
        omega
      · have e1 := (O3.out.lt b h).1
        have e2 := B2.out.size
        omega)
    have cv2 := Bys.conv (show Bys w6 _ (.slice A2 la.length c2) la from Q2.out)
    have cv3 := Bys.conv (show Bys w6 _ (.slice A3 la.length c3) la from Q3.out)
    have cv4 := Bys.conv (show Bys w6 _ v4 la from Q4.out)
    have P2 : Hid (Bys w6 0 (.slice A2 la.length c2) la) := Lib.hid (Q2.out.mono (Nat.zero_le _))
    have P3 : Hid (Bys w6 0 (.slice A3 la.length c3) la) := Lib.hid (Q3.out.mono (Nat.zero_le _))
    clear Q2 Q3 Q4 O2 O3 O4 K46 K36 K26 K2 K3 K4 K5 K6 hll hla
    generalize (⟨(textS is).toArray⟩ : ByteArray) = TX
    generalize strB la = SB1 at cv2 cv3 cv4
    go_upto_region 9 with fail
    clear cv2 cv3 cv4
    go_wp2_with fail
    go_loopw [14] (fun t wr => ∃ k : Nat, k ≤ is.length ∧ t = .int .i64 k ∧ Hid (Below w6.heap.size w6 wr)) (fun t _ => is.length - (intOf t).toNat)
    case atStart => exact ⟨0, Nat.zero_le _, rfl, Lib.hid (Below.refl _ _)⟩
    case round =>
      obtain ⟨k, hk, rfl, K8⟩ := hrel
      obtain ⟨w8, hw8⟩ : ∃ w8, w8 = wr := ⟨_, rfl⟩
      rw [← hw8] at K8 ⊢
      clear hw8
      have B8 : Hid (Below w.heap.size w w8) := Lib.hid (B6.out.trans (K8.out.mono B6.out.size))
      by_cases hkn : k < is.length
      · obtain ⟨i, hik⟩ : ∃ i, is[k]? = some i := ⟨_, List.getElem?_eq_getElem hkn⟩
        obtain ⟨bb, off, rfl, -, hbl, hcell⟩ := HRW.out k i hik
        have HCEL : Hid (∀ X, Below w.heap.size w X → ∀ j v, (inA i).toList[j]? = some v → X.cell? ⟨bb, off + k * 5 + j, none⟩ = some v) := Lib.hid (fun X hb j v hv => (hb.cell (p := ⟨bb, off + k * 5 + j, none⟩) hbl).trans (hcell j v hv))
        have hkI : (k : Int) < (is.length : Int) := by omega
        clear hik hcell hbl
        cases hm : mayS i with
        | true =>
          have CMA : Hid (∀ X : World, Calls Tryd.prog 23 #[.agg (inA i)] X fun e w' => e = .returned (.int .i64 0) ∧ Below X.heap.size X w') := Lib.hid (fun X => by have := may_any i X; rw [hm] at this; exact this)
          have CMR : Hid (∀ X : World, Calls Tryd.prog 24 #[.agg (inA i)] X fun e w' => e = .returned (.bool true) ∧ Below X.heap.size X w') := Lib.hid (fun X => by have := rmay_any i X; rw [hm] at this; exact this)
          clear hm
          go_upto_region 12 with fail
          have hS : (fun X => Below w8.heap.size w8 X) w8.drew := (Below.refl _ _).drew
          refine wp_region_noPanic ?_
          refine wp_region_held_drew (S := fun X => Below w8.heap.size w8 X) (by kernel_rfl) hS ?_
          intro hS
          refine takeR (i := 0) (v := .slice (some ⟨bb, off, none⟩) is.length c) 79 rfl (by kernel_rfl) (by kernel_rfl) (by kernel_rfl) (by kernel_rfl) (fun _ _ _ h => h) (yR_pure (by kernel_rfl) (fun w => by kernel_rfl)) hS ?_
          refine takeR (i := 1) (v := .int .i64 k) 80 rfl (by kernel_rfl) (by kernel_rfl) (by kernel_rfl) (by kernel_rfl) (fun _ _ _ h => h) (yR_pure (by kernel_rfl) (fun w => by kernel_rfl)) hS ?_
          refine takeR (i := 2) 81 rfl (by kernel_rfl) (by kernel_rfl) (by kernel_rfl) (by kernel_rfl) (fun _ _ _ h => h) (yR_sl (by kernel_rfl) _ _ rfl bb off is.length c k 5 (by kernel_rfl) (by kernel_rfl) Tryd.underlying23 (by kernel_rfl) hkn) hS ?_
          refine takeR (i := 3) 82 rfl (by kernel_rfl) (by kernel_rfl) (by kernel_rfl) (by kernel_rfl) (fun _ _ _ h => h) (yR_part (by kernel_rfl) 39 _ rfl bb (off + k * 5) (by kernel_rfl) (inA i) _ (fun X h => HCEL.out X (B8.out.trans (h.mono B8.out.size))) Tryd.underlying39 rfl (by kernel_rfl)) hS ?_
          refine takeR (i := 6) (v := .slice (some ⟨bb, off, none⟩) is.length c) 85 rfl (by kernel_rfl) (by kernel_rfl) (by kernel_rfl) (by kernel_rfl) (fun _ _ _ h => h) (yR_pure (by kernel_rfl) (fun w => by kernel_rfl)) hS ?_
          refine takeR (i := 7) (v := .int .i64 k) 86 rfl (by kernel_rfl) (by kernel_rfl) (by kernel_rfl) (by kernel_rfl) (fun _ _ _ h => h) (yR_pure (by kernel_rfl) (fun w => by kernel_rfl)) hS ?_
          refine takeR (i := 8) 87 rfl (by kernel_rfl) (by kernel_rfl) (by kernel_rfl) (by kernel_rfl) (fun _ _ _ h => h) (yR_sl (by kernel_rfl) _ _ rfl bb off is.length c k 5 (by kernel_rfl) (by kernel_rfl) Tryd.underlying23 (by kernel_rfl) hkn) hS ?_
          refine takeR (i := 9) 88 rfl (by kernel_rfl) (by kernel_rfl) (by kernel_rfl) (by kernel_rfl) (fun _ _ _ h => h) (yR_part (by kernel_rfl) 39 _ rfl bb (off + k * 5) (by kernel_rfl) (inA i) _ (fun X h => HCEL.out X (B8.out.trans (h.mono B8.out.size))) Tryd.underlying39 rfl (by kernel_rfl)) hS ?_
          refine callR (i := 4) 83 (by kernel_rfl) rfl (by kernel_rfl) (by kernel_rfl) _ _ _ rfl _ (by kernel_rfl) ((CMA.out _).mono ?_)
          rintro e X ⟨rfl, hbX⟩
          refine ⟨_, rfl, hS.trans (hbX.mono hS.size), ?_⟩
          have hS := hS.trans (hbX.mono hS.size)
          clear hbX
          refine takeR (i := 5) (v := .bool true) 84 rfl (by kernel_rfl) (by kernel_rfl) (by kernel_rfl) (by kernel_rfl) (fun _ _ _ h => h) (yR_pure (by kernel_rfl) (fun w => by kernel_rfl)) hS ?_
          refine callR (i := 10) 89 (by kernel_rfl) rfl (by kernel_rfl) (by kernel_rfl) _ _ _ rfl _ (by kernel_rfl) ((CMR.out _).mono ?_)
          rintro e X ⟨rfl, hbX⟩
          refine ⟨_, rfl, hS.trans (hbX.mono hS.size), ?_⟩
          have hS := hS.trans (hbX.mono hS.size)
          clear hbX
          refine takeR (i := 11) (v := .bool false) 90 rfl (by kernel_rfl) (by kernel_rfl) (by kernel_rfl) (by kernel_rfl) (fun _ _ _ h => h) (yR_pure (by kernel_rfl) (fun w => by kernel_rfl)) hS ?_
          refine takeR (i := 12) (v := .bool false) 91 rfl (by kernel_rfl) (by kernel_rfl) (by kernel_rfl) (by kernel_rfl) (fun _ _ _ h => h) (yR_pure (by kernel_rfl) (fun w => by kernel_rfl)) hS ?_
          refine takeR (i := 13) (v := .slice (some ⟨bb, off, none⟩) is.length c) 92 rfl (by kernel_rfl) (by kernel_rfl) (by kernel_rfl) (by kernel_rfl) (fun _ _ _ h => h) (yR_pure (by kernel_rfl) (fun w => by kernel_rfl)) hS ?_
          refine takeR (i := 14) (v := .int .i64 k) 93 rfl (by kernel_rfl) (by kernel_rfl) (by kernel_rfl) (by kernel_rfl) (fun _ _ _ h => h) (yR_pure (by kernel_rfl) (fun w => by kernel_rfl)) hS ?_
          refine takeR (i := 15) 94 rfl (by kernel_rfl) (by kernel_rfl) (by kernel_rfl) (by kernel_rfl) (fun _ _ _ h => h) (yR_sl (by kernel_rfl) _ _ rfl bb off is.length c k 5 (by kernel_rfl) (by kernel_rfl) Tryd.underlying23 (by kernel_rfl) hkn) hS ?_
          refine takeR (i := 16) 95 rfl (by kernel_rfl) (by kernel_rfl) (by kernel_rfl) (by kernel_rfl) (fun _ _ _ h => h) (yR_part (by kernel_rfl) 39 _ rfl bb (off + k * 5) (by kernel_rfl) (inA i) _ (fun X h => HCEL.out X (B8.out.trans (h.mono B8.out.size))) Tryd.underlying39 rfl (by kernel_rfl)) hS ?_
          refine callR (i := 17) 96 (by kernel_rfl) rfl (by kernel_rfl) (by kernel_rfl) _ _ _ rfl _ (by kernel_rfl) ((CMA.out _).mono ?_)
          rintro e X ⟨rfl, hbX⟩
          refine ⟨_, rfl, hS.trans (hbX.mono hS.size), ?_⟩
          have hS := hS.trans (hbX.mono hS.size)
          clear hbX
          refine takeR (i := 18) (v := .bool false) 97 rfl (by kernel_rfl) (by kernel_rfl) (by kernel_rfl) (by kernel_rfl) (fun _ _ _ h => h) (yR_pure (by kernel_rfl) (fun w => by kernel_rfl)) hS ?_
          refine takeR (i := 19) (v := .bool false) 98 rfl (by kernel_rfl) (by kernel_rfl) (by kernel_rfl) (by kernel_rfl) (fun _ _ _ h => h) (yR_pure (by kernel_rfl) (fun w => by kernel_rfl)) hS ?_
          refine takeR (i := 20) (v := undef) 99 rfl (by kernel_rfl) (by kernel_rfl) (by kernel_rfl) (by kernel_rfl) (fun _ _ _ h => h) (.inr ⟨by kernel_rfl, rfl⟩) hS ?_
          refine takeR (i := 21) (v := undef) 100 rfl (by kernel_rfl) (by kernel_rfl) (by kernel_rfl) (by kernel_rfl) (fun _ _ _ h => h) (.inr ⟨by kernel_rfl, rfl⟩) hS ?_
          refine takeR (i := 22) (v := undef) 101 rfl (by kernel_rfl) (by kernel_rfl) (by kernel_rfl) (by kernel_rfl) (fun _ _ _ h => h) (.inr ⟨by kernel_rfl, rfl⟩) hS ?_
          refine takeR (i := 23) (v := undef) 102 rfl (by kernel_rfl) (by kernel_rfl) (by kernel_rfl) (by kernel_rfl) (fun _ _ _ h => h) (.inr ⟨by kernel_rfl, rfl⟩) hS ?_
          refine takeR (i := 24) (v := undef) 103 rfl (by kernel_rfl) (by kernel_rfl) (by kernel_rfl) (by kernel_rfl) (fun _ _ _ h => h) (.inr ⟨by kernel_rfl, rfl⟩) hS ?_
          refine takeR (i := 25) (v := undef) 104 rfl (by kernel_rfl) (by kernel_rfl) (by kernel_rfl) (by kernel_rfl) (fun _ _ _ h => h) (.inr ⟨by kernel_rfl, rfl⟩) hS ?_
          refine takeR (i := 26) (v := .bool false) 105 rfl (by kernel_rfl) (by kernel_rfl) (by kernel_rfl) (by kernel_rfl) (fun _ _ _ h => h) (yR_pure (by kernel_rfl) (fun w => by kernel_rfl)) hS ?_
          refine takeR (i := 27) (v := .bool false) 106 rfl (by kernel_rfl) (by kernel_rfl) (by kernel_rfl) (by kernel_rfl) (fun _ _ _ h => h) (yR_pure (by kernel_rfl) (fun w => by kernel_rfl)) hS ?_
          refine wpAnyH_done (by kernel_rfl) ?_ _
          refine NoPanic.normal ?_
          simp only [Act.put, List.setIfInBounds_toArray, List.set_cons_succ, List.set_cons_zero]
          have B9 : Hid (Below w6.heap.size w6 _) := Lib.hid (K8.out.trans (hS.mono K8.out.size))
          clear hS
          go_wp2_with fail
          first
            | (go_roundw
               case rel => exact ⟨k + 1, by omega, by go_num, B9⟩
               case measure => simp [intOf]; omega)
            | (refine ⟨?_, ?_⟩
               · (repeat apply Exists.intro)
                 refine ⟨?_, rfl⟩
                 exact ⟨k + 1, by omega, by go_num, B9⟩
               · simp [intOf]; omega)
        | false =>
          have CMA : Hid (∀ X : World, Calls Tryd.prog 23 #[.agg (inA i)] X fun e w' => e = .returned (.int .i64 40) ∧ Below X.heap.size X w') := Lib.hid (fun X => by have := may_any i X; rw [hm] at this; exact this)
          have CMR : Hid (∀ X : World, Calls Tryd.prog 24 #[.agg (inA i)] X fun e w' => e = .returned (.bool false) ∧ Below X.heap.size X w') := Lib.hid (fun X => by have := rmay_any i X; rw [hm] at this; exact this)
          clear hm
          go_upto_region 12 with fail
          have hS : (fun X => Below w8.heap.size w8 X) w8.drew := (Below.refl _ _).drew
          refine wp_region_noPanic ?_
          refine wp_region_held_drew (S := fun X => Below w8.heap.size w8 X) (by kernel_rfl) hS ?_
          intro hS
          refine takeR (i := 0) (v := .slice (some ⟨bb, off, none⟩) is.length c) 79 rfl (by kernel_rfl) (by kernel_rfl) (by kernel_rfl) (by kernel_rfl) (fun _ _ _ h => h) (yR_pure (by kernel_rfl) (fun w => by kernel_rfl)) hS ?_
          refine takeR (i := 1) (v := .int .i64 k) 80 rfl (by kernel_rfl) (by kernel_rfl) (by kernel_rfl) (by kernel_rfl) (fun _ _ _ h => h) (yR_pure (by kernel_rfl) (fun w => by kernel_rfl)) hS ?_
          refine takeR (i := 2) 81 rfl (by kernel_rfl) (by kernel_rfl) (by kernel_rfl) (by kernel_rfl) (fun _ _ _ h => h) (yR_sl (by kernel_rfl) _ _ rfl bb off is.length c k 5 (by kernel_rfl) (by kernel_rfl) Tryd.underlying23 (by kernel_rfl) hkn) hS ?_
          refine takeR (i := 3) 82 rfl (by kernel_rfl) (by kernel_rfl) (by kernel_rfl) (by kernel_rfl) (fun _ _ _ h => h) (yR_part (by kernel_rfl) 39 _ rfl bb (off + k * 5) (by kernel_rfl) (inA i) _ (fun X h => HCEL.out X (B8.out.trans (h.mono B8.out.size))) Tryd.underlying39 rfl (by kernel_rfl)) hS ?_
          refine takeR (i := 6) (v := .slice (some ⟨bb, off, none⟩) is.length c) 85 rfl (by kernel_rfl) (by kernel_rfl) (by kernel_rfl) (by kernel_rfl) (fun _ _ _ h => h) (yR_pure (by kernel_rfl) (fun w => by kernel_rfl)) hS ?_
          refine takeR (i := 7) (v := .int .i64 k) 86 rfl (by kernel_rfl) (by kernel_rfl) (by kernel_rfl) (by kernel_rfl) (fun _ _ _ h => h) (yR_pure (by kernel_rfl) (fun w => by kernel_rfl)) hS ?_
          refine takeR (i := 8) 87 rfl (by kernel_rfl) (by kernel_rfl) (by kernel_rfl) (by kernel_rfl) (fun _ _ _ h => h) (yR_sl (by kernel_rfl) _ _ rfl bb off is.length c k 5 (by kernel_rfl) (by kernel_rfl) Tryd.underlying23 (by kernel_rfl) hkn) hS ?_
          refine takeR (i := 9) 88 rfl (by kernel_rfl) (by kernel_rfl) (by kernel_rfl) (by kernel_rfl) (fun _ _ _ h => h) (yR_part (by kernel_rfl) 39 _ rfl bb (off + k * 5) (by kernel_rfl) (inA i) _ (fun X h => HCEL.out X (B8.out.trans (h.mono B8.out.size))) Tryd.underlying39 rfl (by kernel_rfl)) hS ?_
          refine callR (i := 4) 83 (by kernel_rfl) rfl (by kernel_rfl) (by kernel_rfl) _ _ _ rfl _ (by kernel_rfl) ((CMA.out _).mono ?_)
          rintro e X ⟨rfl, hbX⟩
          refine ⟨_, rfl, hS.trans (hbX.mono hS.size), ?_⟩
          have hS := hS.trans (hbX.mono hS.size)
          clear hbX
          refine takeR (i := 5) (v := .bool false) 84 rfl (by kernel_rfl) (by kernel_rfl) (by kernel_rfl) (by kernel_rfl) (fun _ _ _ h => h) (yR_pure (by kernel_rfl) (fun w => by kernel_rfl)) hS ?_
          refine callR (i := 10) 89 (by kernel_rfl) rfl (by kernel_rfl) (by kernel_rfl) _ _ _ rfl _ (by kernel_rfl) ((CMR.out _).mono ?_)
          rintro e X ⟨rfl, hbX⟩
          refine ⟨_, rfl, hS.trans (hbX.mono hS.size), ?_⟩
          have hS := hS.trans (hbX.mono hS.size)
          clear hbX
          refine takeR (i := 11) (v := .bool false) 90 rfl (by kernel_rfl) (by kernel_rfl) (by kernel_rfl) (by kernel_rfl) (fun _ _ _ h => h) (yR_pure (by kernel_rfl) (fun w => by kernel_rfl)) hS ?_
          refine takeR (i := 12) (v := .bool false) 91 rfl (by kernel_rfl) (by kernel_rfl) (by kernel_rfl) (by kernel_rfl) (fun _ _ _ h => h) (yR_pure (by kernel_rfl) (fun w => by kernel_rfl)) hS ?_
          refine takeR (i := 13) (v := .slice (some ⟨bb, off, none⟩) is.length c) 92 rfl (by kernel_rfl) (by kernel_rfl) (by kernel_rfl) (by kernel_rfl) (fun _ _ _ h => h) (yR_pure (by kernel_rfl) (fun w => by kernel_rfl)) hS ?_
          refine takeR (i := 14) (v := .int .i64 k) 93 rfl (by kernel_rfl) (by kernel_rfl) (by kernel_rfl) (by kernel_rfl) (fun _ _ _ h => h) (yR_pure (by kernel_rfl) (fun w => by kernel_rfl)) hS ?_
          refine takeR (i := 15) 94 rfl (by kernel_rfl) (by kernel_rfl) (by kernel_rfl) (by kernel_rfl) (fun _ _ _ h => h) (yR_sl (by kernel_rfl) _ _ rfl bb off is.length c k 5 (by kernel_rfl) (by kernel_rfl) Tryd.underlying23 (by kernel_rfl) hkn) hS ?_
          refine takeR (i := 16) 95 rfl (by kernel_rfl) (by kernel_rfl) (by kernel_rfl) (by kernel_rfl) (fun _ _ _ h => h) (yR_part (by kernel_rfl) 39 _ rfl bb (off + k * 5) (by kernel_rfl) (inA i) _ (fun X h => HCEL.out X (B8.out.trans (h.mono B8.out.size))) Tryd.underlying39 rfl (by kernel_rfl)) hS ?_
          refine callR (i := 17) 96 (by kernel_rfl) rfl (by kernel_rfl) (by kernel_rfl) _ _ _ rfl _ (by kernel_rfl) ((CMA.out _).mono ?_)
          rintro e X ⟨rfl, hbX⟩
          refine ⟨_, rfl, hS.trans (hbX.mono hS.size), ?_⟩
          have hS := hS.trans (hbX.mono hS.size)
          clear hbX
          refine takeR (i := 18) (v := .bool true) 97 rfl (by kernel_rfl) (by kernel_rfl) (by kernel_rfl) (by kernel_rfl) (fun _ _ _ h => h) (yR_pure (by kernel_rfl) (fun w => by kernel_rfl)) hS ?_
          refine takeR (i := 19) (v := .bool true) 98 rfl (by kernel_rfl) (by kernel_rfl) (by kernel_rfl) (by kernel_rfl) (fun _ _ _ h => h) (yR_pure (by kernel_rfl) (fun w => by kernel_rfl)) hS ?_
          refine takeR (i := 20) (v := .slice (some ⟨bb, off, none⟩) is.length c) 99 rfl (by kernel_rfl) (by kernel_rfl) (by kernel_rfl) (by kernel_rfl) (fun _ _ _ h => h) (yR_pure (by kernel_rfl) (fun w => by kernel_rfl)) hS ?_
          refine takeR (i := 21) (v := .int .i64 k) 100 rfl (by kernel_rfl) (by kernel_rfl) (by kernel_rfl) (by kernel_rfl) (fun _ _ _ h => h) (yR_pure (by kernel_rfl) (fun w => by kernel_rfl)) hS ?_
          refine takeR (i := 22) 101 rfl (by kernel_rfl) (by kernel_rfl) (by kernel_rfl) (by kernel_rfl) (fun _ _ _ h => h) (yR_sl (by kernel_rfl) _ _ rfl bb off is.length c k 5 (by kernel_rfl) (by kernel_rfl) Tryd.underlying23 (by kernel_rfl) hkn) hS ?_
          refine takeR (i := 23) 102 rfl (by kernel_rfl) (by kernel_rfl) (by kernel_rfl) (by kernel_rfl) (fun _ _ _ h => h) (yR_part (by kernel_rfl) 39 _ rfl bb (off + k * 5) (by kernel_rfl) (inA i) _ (fun X h => HCEL.out X (B8.out.trans (h.mono B8.out.size))) Tryd.underlying39 rfl (by kernel_rfl)) hS ?_
          refine callR (i := 24) 103 (by kernel_rfl) rfl (by kernel_rfl) (by kernel_rfl) _ _ _ rfl _ (by kernel_rfl) ((CMA.out _).mono ?_)
          rintro e X ⟨rfl, hbX⟩
          refine ⟨_, rfl, hS.trans (hbX.mono hS.size), ?_⟩
          have hS := hS.trans (hbX.mono hS.size)
          clear hbX
          refine takeR (i := 25) (v := .bool false) 104 rfl (by kernel_rfl) (by kernel_rfl) (by kernel_rfl) (by kernel_rfl) (fun _ _ _ h => h) (yR_pure (by kernel_rfl) (fun w => by kernel_rfl)) hS ?_
          refine takeR (i := 26) (v := .bool false) 105 rfl (by kernel_rfl) (by kernel_rfl) (by kernel_rfl) (by kernel_rfl) (fun _ _ _ h => h) (yR_pure (by kernel_rfl) (fun w => by kernel_rfl)) hS ?_
          refine takeR (i := 27) (v := .bool false) 106 rfl (by kernel_rfl) (by kernel_rfl) (by kernel_rfl) (by kernel_rfl) (fun _ _ _ h => h) (yR_pure (by kernel_rfl) (fun w => by kernel_rfl)) hS ?_
          refine wpAnyH_done (by kernel_rfl) ?_ _
          refine NoPanic.normal ?_
          simp only [Act.put, List.setIfInBounds_toArray, List.set_cons_succ, List.set_cons_zero]
          have B9 : Hid (Below w6.heap.size w6 _) := Lib.hid (K8.out.trans (hS.mono K8.out.size))
          clear hS
          go_wp2_with fail
          first
            | (go_roundw
               case rel => exact ⟨k + 1, by omega, by go_num, B9⟩
               case measure => simp [intOf]; omega)
            | (refine ⟨?_, ?_⟩
               · (repeat apply Exists.intro)
                 refine ⟨?_, rfl⟩
                 exact ⟨k + 1, by omega, by go_num, B9⟩
               · simp [intOf]; omega)
      · have P2 : Hid (Bys w8 0 (.slice A2 la.length c2) la) := Lib.hid ((owns_block P2.out (fun g hg => K8.out.block g (P2.out.lt g hg).2)))
        have P3 : Hid (Bys w8 0 (.slice A3 la.length c3) la) := Lib.hid ((owns_block P3.out (fun g hg => K8.out.block g (P3.out.lt g hg).2)))
        have C9 := Lib.hid (owned_two P2.out P3.out HX.out HLA.out HLB.out)
        clear P2 P3
        go_wp2_with fail
        refine (C9.out).mono ?_
        rintro e w9 ⟨rfl, hk9⟩
        have B9 : Hid (Below w.heap.size w w9) := Lib.hid (B8.out.trans (hk9.below B8.out.size (fun b hb => HOB.out b hb)))
        clear hk9 C9
        go_wp2_with fail
        go_ret
        exact ⟨by first | rfl | simp, B9.out⟩
  · have HEA := Lib.hid ea
    have HPA := Lib.hid pa
    clear ea pa
    have C2 := Lib.hid (encode_any is (by first | omega | (rw [List.length_append]; omega)) (.slice A is.length c) w1 (HR.out w1 B1.out))
    rw [HEA.out] at C2
    go_wp2_with fail
    refine (C2.out).mono ?_
    rintro e w2 ⟨he2, hb2⟩
    have he2' : e = .returned (.tuple #[.slice none 0 0, .int .i64 40]) := he2
    subst he2'
    clear he2
    have B2 : Hid (Below w.heap.size w w2) := Lib.hid (B1.out.trans (hb2.mono B1.out.size))
    have K2 : Hid (Below w1.heap.size w1 w2) := Lib.hid hb2
    clear hb2 C2
    have C3 := Lib.hid (encode_any is (by first | omega | (rw [List.length_append]; omega)) (.slice A is.length c) w2 (HR.out w2 B2.out))
    rw [HEA.out] at C3
    go_wp2_with fail
    refine (C3.out).mono ?_
    rintro e w3 ⟨he3, hb3⟩
    have he3' : e = .returned (.tuple #[.slice none 0 0, .int .i64 40]) := he3
    subst he3'
    clear he3
    have B3 : Hid (Below w.heap.size w w3) := Lib.hid (B2.out.trans (hb3.mono B2.out.size))
    have K3 : Hid (Below w2.heap.size w2 w3) := Lib.hid hb3
    clear hb3 C3
    have C4 := Lib.hid (rencode_any is (by first | omega | (rw [List.length_append]; omega)) (.slice A is.length c) w3 (HR.out w3 B3.out))
    rw [HEA.out] at C4
    go_wp2_with fail
    refine (C4.out).mono ?_
    rintro e w4 ⟨he4, hb4⟩
    have he4' : e = .returned (.tuple #[.slice none 0 0, .int .i64 40]) := he4
    subst he4'
    clear he4
    have B4 : Hid (Below w.heap.size w w4) := Lib.hid (B3.out.trans (hb4.mono B3.out.size))
    have K4 : Hid (Below w3.heap.size w3 w4) := Lib.hid hb4
    clear hb4 C4
    have C5 := Lib.hid (print_any is (by first | omega | (rw [List.length_append]; omega)) (.slice A is.length c) w4 (HR.out w4 B4.out) (HL.out w4 B4.out))
    rw [HPA.out] at C5
    go_wp2_with fail
    refine (C5.out).mono ?_
    rintro e w5 ⟨he5, hb5⟩
    have he5' : e = .returned (.tuple #[.string ⟨#[]⟩, .int .i64 40]) := he5
    subst he5'
    clear he5
    have B5 : Hid (Below w.heap.size w w5) := Lib.hid (B4.out.trans (hb5.mono B4.out.size))
    have K5 : Hid (Below w4.heap.size w4 w5) := Lib.hid hb5
    clear hb5 C5
    have C6 := Lib.hid (rprint_any is (by first | omega | (rw [List.length_append]; omega)) (.slice A is.length c) w5 (HR.out w5 B5.out) (HL.out w5 B5.out))
    rw [HPA.out] at C6
    go_wp2_with fail
    refine (C6.out).mono ?_
    rintro e w6 ⟨he6, hb6⟩
    have he6' : e = .returned (.tuple #[.string ⟨#[]⟩, .int .i64 40]) := he6
    subst he6'
    clear he6
    have B6 : Hid (Below w.heap.size w w6) := Lib.hid (B5.out.trans (hb6.mono B5.out.size))
    have K6 : Hid (Below w5.heap.size w5 w6) := Lib.hid hb6
    clear hb6 C6

    obtain ⟨la, hla⟩ : ∃ la : List UInt8, la = [] := ⟨_, rfl⟩
    have HLA : Hid (la.length ≤ 35184372088832) := Lib.hid (by rw [hla]; exact Nat.zero_le _)
    have HLB := HLA
    have HX : Hid (∀ b, (Value.slice none 0 0).ownBlock = some b → (Value.slice none 0 0).ownBlock ≠ some b) := Lib.hid (fun b h => by simp [Value.ownBlock] at h)
    have HOB : Hid (∀ b, (Value.slice none 0 0).ownBlock = some b ∨ (Value.slice none 0 0).ownBlock = some b → w.heap.size ≤ b) := Lib.hid (fun b hb => by simp [Value.ownBlock] at hb)
    have P2 : Hid (Bys w6 0 (.slice none 0 0) la) := Lib.hid (by rw [hla]; exact World.ownsRow_nil _ _ _ _)
    have P3 := P2
    have cvn : (convert 31 9 (.slice none 0 0)).run Tryd.prog w6 = .ok (.string (strB [])) w6 := conv_src (A := none) (b := []) (c := 0) (fun h => absurd rfl h)
    clear hla K2 K3 K4 K5 K6
    generalize strB [] = SB1 at cvn
    go_upto_region 9 with fail
    clear cvn
    go_wp2_with fail
    go_loopw [14] (fun t wr => ∃ k : Nat, k ≤ is.length ∧ t = .int .i64 k ∧ Hid (Below w6.heap.size w6 wr)) (fun t _ => is.length - (intOf t).toNat)
    case atStart => exact ⟨0, Nat.zero_le _, rfl, Lib.hid (Below.refl _ _)⟩
    case round =>
      obtain ⟨k, hk, rfl, K8⟩ := hrel
      obtain ⟨w8, hw8⟩ : ∃ w8, w8 = wr := ⟨_, rfl⟩
      rw [← hw8] at K8 ⊢
      clear hw8
      have B8 : Hid (Below w.heap.size w w8) := Lib.hid (B6.out.trans (K8.out.mono B6.out.size))
      by_cases hkn : k < is.length
      · obtain ⟨i, hik⟩ : ∃ i, is[k]? = some i := ⟨_, List.getElem?_eq_getElem hkn⟩
        obtain ⟨bb, off, rfl, -, hbl, hcell⟩ := HRW.out k i hik
        have HCEL : Hid (∀ X, Below w.heap.size w X → ∀ j v, (inA i).toList[j]? = some v → X.cell? ⟨bb, off + k * 5 + j, none⟩ = some v) := Lib.hid (fun X hb j v hv => (hb.cell (p := ⟨bb, off + k * 5 + j, none⟩) hbl).trans (hcell j v hv))
        have hkI : (k : Int) < (is.length : Int) := by omega
        clear hik hcell hbl
        cases hm : mayS i with
        | true =>
          have CMA : Hid (∀ X : World, Calls Tryd.prog 23 #[.agg (inA i)] X fun e w' => e = .returned (.int .i64 0) ∧ Below X.heap.size X w') := Lib.hid (fun X => by have := may_any i X; rw [hm] at this; exact this)
          have CMR : Hid (∀ X : World, Calls Tryd.prog 24 #[.agg (inA i)] X fun e w' => e = .returned (.bool true) ∧ Below X.heap.size X w') := Lib.hid (fun X => by have := rmay_any i X; rw [hm] at this; exact this)
          clear hm
          go_upto_region 12 with fail
          have hS : (fun X => Below w8.heap.size w8 X) w8.drew := (Below.refl _ _).drew
          refine wp_region_noPanic ?_
          refine wp_region_held_drew (S := fun X => Below w8.heap.size w8 X) (by kernel_rfl) hS ?_
          intro hS
          refine takeR (i := 0) (v := .slice (some ⟨bb, off, none⟩) is.length c) 79 rfl (by kernel_rfl) (by kernel_rfl) (by kernel_rfl) (by kernel_rfl) (fun _ _ _ h => h) (yR_pure (by kernel_rfl) (fun w => by kernel_rfl)) hS ?_
          refine takeR (i := 1) (v := .int .i64 k) 80 rfl (by kernel_rfl) (by kernel_rfl) (by kernel_rfl) (by kernel_rfl) (fun _ _ _ h => h) (yR_pure (by kernel_rfl) (fun w => by kernel_rfl)) hS ?_
          refine takeR (i := 2) 81 rfl (by kernel_rfl) (by kernel_rfl) (by kernel_rfl) (by kernel_rfl) (fun _ _ _ h => h) (yR_sl (by kernel_rfl) _ _ rfl bb off is.length c k 5 (by kernel_rfl) (by kernel_rfl) Tryd.underlying23 (by kernel_rfl) hkn) hS ?_
          refine takeR (i := 3) 82 rfl (by kernel_rfl) (by kernel_rfl) (by kernel_rfl) (by kernel_rfl) (fun _ _ _ h => h) (yR_part (by kernel_rfl) 39 _ rfl bb (off + k * 5) (by kernel_rfl) (inA i) _ (fun X h => HCEL.out X (B8.out.trans (h.mono B8.out.size))) Tryd.underlying39 rfl (by kernel_rfl)) hS ?_
          refine takeR (i := 6) (v := .slice (some ⟨bb, off, none⟩) is.length c) 85 rfl (by kernel_rfl) (by kernel_rfl) (by kernel_rfl) (by kernel_rfl) (fun _ _ _ h => h) (yR_pure (by kernel_rfl) (fun w => by kernel_rfl)) hS ?_
          refine takeR (i := 7) (v := .int .i64 k) 86 rfl (by kernel_rfl) (by kernel_rfl) (by kernel_rfl) (by kernel_rfl) (fun _ _ _ h => h) (yR_pure (by kernel_rfl) (fun w => by kernel_rfl)) hS ?_
          refine takeR (i := 8) 87 rfl (by kernel_rfl) (by kernel_rfl) (by kernel_rfl) (by kernel_rfl) (fun _ _ _ h => h) (yR_sl (by kernel_rfl) _ _ rfl bb off is.length c k 5 (by kernel_rfl) (by kernel_rfl) Tryd.underlying23 (by kernel_rfl) hkn) hS ?_
          refine takeR (i := 9) 88 rfl (by kernel_rfl) (by kernel_rfl) (by kernel_rfl) (by kernel_rfl) (fun _ _ _ h => h) (yR_part (by kernel_rfl) 39 _ rfl bb (off + k * 5) (by kernel_rfl) (inA i) _ (fun X h => HCEL.out X (B8.out.trans (h.mono B8.out.size))) Tryd.underlying39 rfl (by kernel_rfl)) hS ?_
          refine callR (i := 4) 83 (by kernel_rfl) rfl (by kernel_rfl) (by kernel_rfl) _ _ _ rfl _ (by kernel_rfl) ((CMA.out _).mono ?_)
          rintro e X ⟨rfl, hbX⟩
          refine ⟨_, rfl, hS.trans (hbX.mono hS.size), ?_⟩
          have hS := hS.trans (hbX.mono hS.size)
          clear hbX
          refine takeR (i := 5) (v := .bool true) 84 rfl (by kernel_rfl) (by kernel_rfl) (by kernel_rfl) (by kernel_rfl) (fun _ _ _ h => h) (yR_pure (by kernel_rfl) (fun w => by kernel_rfl)) hS ?_
          refine callR (i := 10) 89 (by kernel_rfl) rfl (by kernel_rfl) (by kernel_rfl) _ _ _ rfl _ (by kernel_rfl) ((CMR.out _).mono ?_)
          rintro e X ⟨rfl, hbX⟩
          refine ⟨_, rfl, hS.trans (hbX.mono hS.size), ?_⟩
          have hS := hS.trans (hbX.mono hS.size)
          clear hbX
          refine takeR (i := 11) (v := .bool false) 90 rfl (by kernel_rfl) (by kernel_rfl) (by kernel_rfl) (by kernel_rfl) (fun _ _ _ h => h) (yR_pure (by kernel_rfl) (fun w => by kernel_rfl)) hS ?_
          refine takeR (i := 12) (v := .bool false) 91 rfl (by kernel_rfl) (by kernel_rfl) (by kernel_rfl) (by kernel_rfl) (fun _ _ _ h => h) (yR_pure (by kernel_rfl) (fun w => by kernel_rfl)) hS ?_
          refine takeR (i := 13) (v := .slice (some ⟨bb, off, none⟩) is.length c) 92 rfl (by kernel_rfl) (by kernel_rfl) (by kernel_rfl) (by kernel_rfl) (fun _ _ _ h => h) (yR_pure (by kernel_rfl) (fun w => by kernel_rfl)) hS ?_
          refine takeR (i := 14) (v := .int .i64 k) 93 rfl (by kernel_rfl) (by kernel_rfl) (by kernel_rfl) (by kernel_rfl) (fun _ _ _ h => h) (yR_pure (by kernel_rfl) (fun w => by kernel_rfl)) hS ?_
          refine takeR (i := 15) 94 rfl (by kernel_rfl) (by kernel_rfl) (by kernel_rfl) (by kernel_rfl) (fun _ _ _ h => h) (yR_sl (by kernel_rfl) _ _ rfl bb off is.length c k 5 (by kernel_rfl) (by kernel_rfl) Tryd.underlying23 (by kernel_rfl) hkn) hS ?_
          refine takeR (i := 16) 95 rfl (by kernel_rfl) (by kernel_rfl) (by kernel_rfl) (by kernel_rfl) (fun _ _ _ h => h) (yR_part (by kernel_rfl) 39 _ rfl bb (off + k * 5) (by kernel_rfl) (inA i) _ (fun X h => HCEL.out X (B8.out.trans (h.mono B8.out.size))) Tryd.underlying39 rfl (by kernel_rfl)) hS ?_
          refine callR (i := 17) 96 (by kernel_rfl) rfl (by kernel_rfl) (by kernel_rfl) _ _ _ rfl _ (by kernel_rfl) ((CMA.out _).mono ?_)
          rintro e X ⟨rfl, hbX⟩
          refine ⟨_, rfl, hS.trans (hbX.mono hS.size), ?_⟩
          have hS := hS.trans (hbX.mono hS.size)
          clear hbX
          refine takeR (i := 18) (v := .bool false) 97 rfl (by kernel_rfl) (by kernel_rfl) (by kernel_rfl) (by kernel_rfl) (fun _ _ _ h => h) (yR_pure (by kernel_rfl) (fun w => by kernel_rfl)) hS ?_
          refine takeR (i := 19) (v := .bool false) 98 rfl (by kernel_rfl) (by kernel_rfl) (by kernel_rfl) (by kernel_rfl) (fun _ _ _ h => h) (yR_pure (by kernel_rfl) (fun w => by kernel_rfl)) hS ?_
          refine takeR (i := 20) (v := undef) 99 rfl (by kernel_rfl) (by kernel_rfl) (by kernel_rfl) (by kernel_rfl) (fun _ _ _ h => h) (.inr ⟨by kernel_rfl, rfl⟩) hS ?_
          refine takeR (i := 21) (v := undef) 100 rfl (by kernel_rfl) (by kernel_rfl) (by kernel_rfl) (by kernel_rfl) (fun _ _ _ h => h) (.inr ⟨by kernel_rfl, rfl⟩) hS ?_
          refine takeR (i := 22) (v := undef) 101 rfl (by kernel_rfl) (by kernel_rfl) (by kernel_rfl) (by kernel_rfl) (fun _ _ _ h => h) (.inr ⟨by kernel_rfl, rfl⟩) hS ?_
          refine takeR (i := 23) (v := undef) 102 rfl (by kernel_rfl) (by kernel_rfl) (by kernel_rfl) (by kernel_rfl) (fun _ _ _ h => h) (.inr ⟨by kernel_rfl, rfl⟩) hS ?_
          refine takeR (i := 24) (v := undef) 103 rfl (by kernel_rfl) (by kernel_rfl) (by kernel_rfl) (by kernel_rfl) (fun _ _ _ h => h) (.inr ⟨by kernel_rfl, rfl⟩) hS ?_
          refine takeR (i := 25) (v := undef) 104 rfl (by kernel_rfl) (by kernel_rfl) (by kernel_rfl) (by kernel_rfl) (fun _ _ _ h => h) (.inr ⟨by kernel_rfl, rfl⟩) hS ?_
          refine takeR (i := 26) (v := .bool false) 105 rfl (by kernel_rfl) (by kernel_rfl) (by kernel_rfl) (by kernel_rfl) (fun _ _ _ h => h) (yR_pure (by kernel_rfl) (fun w => by kernel_rfl)) hS ?_
          refine takeR (i := 27) (v := .bool false) 106 rfl (by kernel_rfl) (by kernel_rfl) (by kernel_rfl) (by kernel_rfl) (fun _ _ _ h => h) (yR_pure (by kernel_rfl) (fun w => by kernel_rfl)) hS ?_
          refine wpAnyH_done (by kernel_rfl) ?_ _
          refine NoPanic.normal ?_
          simp only [Act.put, List.setIfInBounds_toArray, List.set_cons_succ, List.set_cons_zero]
          have B9 : Hid (Below w6.heap.size w6 _) := Lib.hid (K8.out.trans (hS.mono K8.out.size))
          clear hS
          go_wp2_with fail
          first
            | (go_roundw
               case rel => exact ⟨k + 1, by omega, by go_num, B9⟩
               case measure => simp [intOf]; omega)
            | (refine ⟨?_, ?_⟩
               · (repeat apply Exists.intro)
                 refine ⟨?_, rfl⟩
                 exact ⟨k + 1, by omega, by go_num, B9⟩
               · simp [intOf]; omega)
        | false =>
          have CMA : Hid (∀ X : World, Calls Tryd.prog 23 #[.agg (inA i)] X fun e w' => e = .returned (.int .i64 40) ∧ Below X.heap.size X w') := Lib.hid (fun X => by have := may_any i X; rw [hm] at this; exact this)
          have CMR : Hid (∀ X : World, Calls Tryd.prog 24 #[.agg (inA i)] X fun e w' => e = .returned (.bool false) ∧ Below X.heap.size X w') := Lib.hid (fun X => by have := rmay_any i X; rw [hm] at this; exact this)
          clear hm
          go_upto_region 12 with fail
          have hS : (fun X => Below w8.heap.size w8 X) w8.drew := (Below.refl _ _).drew
          refine wp_region_noPanic ?_
          refine wp_region_held_drew (S := fun X => Below w8.heap.size w8 X) (by kernel_rfl) hS ?_
          intro hS
          refine takeR (i := 0) (v := .slice (some ⟨bb, off, none⟩) is.length c) 79 rfl (by kernel_rfl) (by kernel_rfl) (by kernel_rfl) (by kernel_rfl) (fun _ _ _ h => h) (yR_pure (by kernel_rfl) (fun w => by kernel_rfl)) hS ?_
          refine takeR (i := 1) (v := .int .i64 k) 80 rfl (by kernel_rfl) (by kernel_rfl) (by kernel_rfl) (by kernel_rfl) (fun _ _ _ h => h) (yR_pure (by kernel_rfl) (fun w => by kernel_rfl)) hS ?_
          refine takeR (i := 2) 81 rfl (by kernel_rfl) (by kernel_rfl) (by kernel_rfl) (by kernel_rfl) (fun _ _ _ h => h) (yR_sl (by kernel_rfl) _ _ rfl bb off is.length c k 5 (by kernel_rfl) (by kernel_rfl) Tryd.underlying23 (by kernel_rfl) hkn) hS ?_
          refine takeR (i := 3) 82 rfl (by kernel_rfl) (by kernel_rfl) (by kernel_rfl) (by kernel_rfl) (fun _ _ _ h => h) (yR_part (by kernel_rfl) 39 _ rfl bb (off + k * 5) (by kernel_rfl) (inA i) _ (fun X h => HCEL.out X (B8.out.trans (h.mono B8.out.size))) Tryd.underlying39 rfl (by kernel_rfl)) hS ?_
          refine takeR (i := 6) (v := .slice (some ⟨bb, off, none⟩) is.length c) 85 rfl (by kernel_rfl) (by kernel_rfl) (by kernel_rfl) (by kernel_rfl) (fun _ _ _ h => h) (yR_pure (by kernel_rfl) (fun w => by kernel_rfl)) hS ?_
          refine takeR (i := 7) (v := .int .i64 k) 86 rfl (by kernel_rfl) (by kernel_rfl) (by kernel_rfl) (by kernel_rfl) (fun _ _ _ h => h) (yR_pure (by kernel_rfl) (fun w => by kernel_rfl)) hS ?_
          refine takeR (i := 8) 87 rfl (by kernel_rfl) (by kernel_rfl) (by kernel_rfl) (by kernel_rfl) (fun _ _ _ h => h) (yR_sl (by kernel_rfl) _ _ rfl bb off is.length c k 5 (by kernel_rfl) (by kernel_rfl) Tryd.underlying23 (by kernel_rfl) hkn) hS ?_
          refine takeR (i := 9) 88 rfl (by kernel_rfl) (by kernel_rfl) (by kernel_rfl) (by kernel_rfl) (fun _ _ _ h => h) (yR_part (by kernel_rfl) 39 _ rfl bb (off + k * 5) (by kernel_rfl) (inA i) _ (fun X h => HCEL.out X (B8.out.trans (h.mono B8.out.size))) Tryd.underlying39 rfl (by kernel_rfl)) hS ?_
          refine callR (i := 4) 83 (by kernel_rfl) rfl (by kernel_rfl) (by kernel_rfl) _ _ _ rfl _ (by kernel_rfl) ((CMA.out _).mono ?_)
          rintro e X ⟨rfl, hbX⟩
          refine ⟨_, rfl, hS.trans (hbX.mono hS.size), ?_⟩
          have hS := hS.trans (hbX.mono hS.size)
          clear hbX
          refine takeR (i := 5) (v := .bool false) 84 rfl (by kernel_rfl) (by kernel_rfl) (by kernel_rfl) (by kernel_rfl) (fun _ _ _ h => h) (yR_pure (by kernel_rfl) (fun w => by kernel_rfl)) hS ?_
          refine callR (i := 10) 89 (by kernel_rfl) rfl (by kernel_rfl) (by kernel_rfl) _ _ _ rfl _ (by kernel_rfl) ((CMR.out _).mono ?_)
          rintro e X ⟨rfl, hbX⟩
          refine ⟨_, rfl, hS.trans (hbX.mono hS.size), ?_⟩
          have hS := hS.trans (hbX.mono hS.size)
          clear hbX
          refine takeR (i := 11) (v := .bool false) 90 rfl (by kernel_rfl) (by kernel_rfl) (by kernel_rfl) (by kernel_rfl) (fun _ _ _ h => h) (yR_pure (by kernel_rfl) (fun w => by kernel_rfl)) hS ?_
          refine takeR (i := 12) (v := .bool false) 91 rfl (by kernel_rfl) (by kernel_rfl) (by kernel_rfl) (by kernel_rfl) (fun _ _ _ h => h) (yR_pure (by kernel_rfl) (fun w => by kernel_rfl)) hS ?_
          refine takeR (i := 13) (v := .slice (some ⟨bb, off, none⟩) is.length c) 92 rfl (by kernel_rfl) (by kernel_rfl) (by kernel_rfl) (by kernel_rfl) (fun _ _ _ h => h) (yR_pure (by kernel_rfl) (fun w => by kernel_rfl)) hS ?_
          refine takeR (i := 14) (v := .int .i64 k) 93 rfl (by kernel_rfl) (by kernel_rfl) (by kernel_rfl) (by kernel_rfl) (fun _ _ _ h => h) (yR_pure (by kernel_rfl) (fun w => by kernel_rfl)) hS ?_
          refine takeR (i := 15) 94 rfl (by kernel_rfl) (by kernel_rfl) (by kernel_rfl) (by kernel_rfl) (fun _ _ _ h => h) (yR_sl (by kernel_rfl) _ _ rfl bb off is.length c k 5 (by kernel_rfl) (by kernel_rfl) Tryd.underlying23 (by kernel_rfl) hkn) hS ?_
          refine takeR (i := 16) 95 rfl (by kernel_rfl) (by kernel_rfl) (by kernel_rfl) (by kernel_rfl) (fun _ _ _ h => h) (yR_part (by kernel_rfl) 39 _ rfl bb (off + k * 5) (by kernel_rfl) (inA i) _ (fun X h => HCEL.out X (B8.out.trans (h.mono B8.out.size))) Tryd.underlying39 rfl (by kernel_rfl)) hS ?_
          refine callR (i := 17) 96 (by kernel_rfl) rfl (by kernel_rfl) (by kernel_rfl) _ _ _ rfl _ (by kernel_rfl) ((CMA.out _).mono ?_)
          rintro e X ⟨rfl, hbX⟩
          refine ⟨_, rfl, hS.trans (hbX.mono hS.size), ?_⟩
          have hS := hS.trans (hbX.mono hS.size)
          clear hbX
          refine takeR (i := 18) (v := .bool true) 97 rfl (by kernel_rfl) (by kernel_rfl) (by kernel_rfl) (by kernel_rfl) (fun _ _ _ h => h) (yR_pure (by kernel_rfl) (fun w => by kernel_rfl)) hS ?_
          refine takeR (i := 19) (v := .bool true) 98 rfl (by kernel_rfl) (by kernel_rfl) (by kernel_rfl) (by kernel_rfl) (fun _ _ _ h => h) (yR_pure (by kernel_rfl) (fun w => by kernel_rfl)) hS ?_
          refine takeR (i := 20) (v := .slice (some ⟨bb, off, none⟩) is.length c) 99 rfl (by kernel_rfl) (by kernel_rfl) (by kernel_rfl) (by kernel_rfl) (fun _ _ _ h => h) (yR_pure (by kernel_rfl) (fun w => by kernel_rfl)) hS ?_
          refine takeR (i := 21) (v := .int .i64 k) 100 rfl (by kernel_rfl) (by kernel_rfl) (by kernel_rfl) (by kernel_rfl) (fun _ _ _ h => h) (yR_pure (by kernel_rfl) (fun w => by kernel_rfl)) hS ?_
          refine takeR (i := 22) 101 rfl (by kernel_rfl) (by kernel_rfl) (by kernel_rfl) (by kernel_rfl) (fun _ _ _ h => h) (yR_sl (by kernel_rfl) _ _ rfl bb off is.length c k 5 (by kernel_rfl) (by kernel_rfl) Tryd.underlying23 (by kernel_rfl) hkn) hS ?_
          refine takeR (i := 23) 102 rfl (by kernel_rfl) (by kernel_rfl) (by kernel_rfl) (by kernel_rfl) (fun _ _ _ h => h) (yR_part (by kernel_rfl) 39 _ rfl bb (off + k * 5) (by kernel_rfl) (inA i) _ (fun X h => HCEL.out X (B8.out.trans (h.mono B8.out.size))) Tryd.underlying39 rfl (by kernel_rfl)) hS ?_
          refine callR (i := 24) 103 (by kernel_rfl) rfl (by kernel_rfl) (by kernel_rfl) _ _ _ rfl _ (by kernel_rfl) ((CMA.out _).mono ?_)
          rintro e X ⟨rfl, hbX⟩
          refine ⟨_, rfl, hS.trans (hbX.mono hS.size), ?_⟩
          have hS := hS.trans (hbX.mono hS.size)
          clear hbX
          refine takeR (i := 25) (v := .bool false) 104 rfl (by kernel_rfl) (by kernel_rfl) (by kernel_rfl) (by kernel_rfl) (fun _ _ _ h => h) (yR_pure (by kernel_rfl) (fun w => by kernel_rfl)) hS ?_
          refine takeR (i := 26) (v := .bool false) 105 rfl (by kernel_rfl) (by kernel_rfl) (by kernel_rfl) (by kernel_rfl) (fun _ _ _ h => h) (yR_pure (by kernel_rfl) (fun w => by kernel_rfl)) hS ?_
          refine takeR (i := 27) (v := .bool false) 106 rfl (by kernel_rfl) (by kernel_rfl) (by kernel_rfl) (by kernel_rfl) (fun _ _ _ h => h) (yR_pure (by kernel_rfl) (fun w => by kernel_rfl)) hS ?_
          refine wpAnyH_done (by kernel_rfl) ?_ _
          refine NoPanic.normal ?_
          simp only [Act.put, List.setIfInBounds_toArray, List.set_cons_succ, List.set_cons_zero]
          have B9 : Hid (Below w6.heap.size w6 _) := Lib.hid (K8.out.trans (hS.mono K8.out.size))
          clear hS
          go_wp2_with fail
          first
            | (go_roundw
               case rel => exact ⟨k + 1, by omega, by go_num, B9⟩
               case measure => simp [intOf]; omega)
            | (refine ⟨?_, ?_⟩
               · (repeat apply Exists.intro)
                 refine ⟨?_, rfl⟩
                 exact ⟨k + 1, by omega, by go_num, B9⟩
               · simp [intOf]; omega)
      · have P2 : Hid (Bys w8 0 (.slice none 0 0) la) := Lib.hid ((owns_block P2.out (fun g hg => K8.out.block g (P2.out.lt g hg).2)))
        have P3 : Hid (Bys w8 0 (.slice none 0 0) la) := Lib.hid ((owns_block P3.out (fun g hg => K8.out.block g (P3.out.lt g hg).2)))
        have C9 := Lib.hid (owned_two P2.out P3.out HX.out HLA.out HLB.out)
        clear P2 P3
        go_wp2_with fail
        refine (C9.out).mono ?_
        rintro e w9 ⟨rfl, hk9⟩
        have B9 : Hid (Below w.heap.size w w9) := Lib.hid (B8.out.trans (hk9.below B8.out.size (fun b hb => HOB.out b hb)))
        clear hk9 C9
        go_wp2_with fail
        go_ret
        exact ⟨by first | rfl | simp, B9.out⟩
end Go.Proofs.YtmbacegbcccdjaaDoor
