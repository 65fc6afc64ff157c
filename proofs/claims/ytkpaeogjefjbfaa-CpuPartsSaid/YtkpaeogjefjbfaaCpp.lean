/-
  Layer 6: the walk of CpuParts.
  Conditions: none. (My own text.)
-/
import Derived.Test.YtkpaeogjefjbfaaCop
import Derived.Test.YtkpaeogjefjbfaaCaw
import Derived.Test.YtkpaeogjefjbfaaCpn
namespace Go.Proofs.Ytkpaeogjefjbfaa
open Go.RowKit Spm
set_option linter.unusedVariables false
set_option linter.unusedSimpArgs false

set_option maxRecDepth 100000 in
set_option maxHeartbeats 8000000 in
theorem parts_walk (va vc : Value) (l : List ActM) (is : List Ins) (at_ : Int) (C : Ctx) (n m : Int) (w : World) (hv : ActsV w w.heap.size va l) (hi : RowsAt 5 Ins.cells w (fun k => k < w.heap.size) vc is) (hat : I64 at_) (hC : CtxOk C) (hn : 0 ≤ n ∧ n ≤ 255) (hm : 0 ≤ m ∧ m ≤ 255) : Calls Try.prog 4 #[.agg (caseA va vc at_ C), .int .u8 n, .int .u8 m] w fun e w' => e = .returned (.bool true) ∧ Below w.heap.size w w' := by
  have HB := Lib.hid ((Has.start (Below.refl w.heap.size w) (Nat.le_refl _)).newcel 46 #[va, vc, .int .i64 at_, .int .i64 C.pc, .int .i64 C.tp, .int .i64 (C.r 0), .int .i64 (C.r 1), .int .i64 (C.r 2), .int .i64 (C.r 3), .int .i64 (C.r 4), .int .i64 (C.r 5), .int .i64 (C.r 6), .int .i64 (C.r 7), .int .i64 (C.r 8), .int .i64 (C.r 9), .int .i64 (C.r 10), .int .i64 (C.r 11), .int .i64 (C.r 12), .int .i64 (C.r 13), .int .i64 (C.r 14), .int .i64 (C.r 15)])
  have HV := Lib.hid hv
  have HI := Lib.hid hi
  have HAT := Lib.hid hat
  have HC := Lib.hid hC
  clear hv hi hat hC
  unfold caseA
  go_enter Try.func4, Try.ntmps4
  go_wp2_with fail
  obtain ⟨w1, hw1⟩ : ∃ w1, w.alloc (.cells #[va, vc, .int .i64 at_, .int .i64 C.pc, .int .i64 C.tp, .int .i64 (C.r 0), .int .i64 (C.r 1), .int .i64 (C.r 2), .int .i64 (C.r 3), .int .i64 (C.r 4), .int .i64 (C.r 5), .int .i64 (C.r 6), .int .i64 (C.r 7), .int .i64 (C.r 8), .int .i64 (C.r 9), .int .i64 (C.r 10), .int .i64 (C.r 11), .int .i64 (C.r 12), .int .i64 (C.r 13), .int .i64 (C.r 14), .int .i64 (C.r 15)] 46) = w1 := ⟨_, rfl⟩
  rw [hw1] at HB ⊢
  clear hw1
  generalize hBq : w.heap.size = B at HB HV HI ⊢
  have HBQ := Lib.hid hBq
  clear hBq
  have HB1 : Hid (Has B w w1 (Star (Cel B 46 (caseA va vc at_ C)) Emp)) := HB
  clear HB
  refine (awake06 w1).mono ?_
  rintro e w2 ⟨rfl, hb, hl⟩
  have M2 := Lib.hid (HB1.out.stay hb)
  clear hb hl HB1
  go_wp2_with (first | (refine wpList_load_rowW rfl 46 _ rfl B rfl (caseA va vc at_ C) _ M2.out.cel Try.underlying46 rfl (by kernel_rfl) ?_))
  refine (both_at M2.out HV.out HI.out HAT.out C).mono ?_
  rintro e w3 ⟨a, c, rfl, m3⟩
  obtain ⟨L, hLq⟩ : ∃ L, (codeS (playS [] (l.map (·.x))) at_ is).1 = L := ⟨_, rfl⟩
  rw [hLq] at m3
  have M3 := Lib.hid m3
  clear m3 M2
  go_wp2_with (first | (refine wpList_load_rowW rfl 46 _ rfl B rfl (caseA va vc at_ C) _ M3.out.r3.cel Try.underlying46 rfl (by kernel_rfl) ?_))
  refine (both_at M3.out HV.out HI.out HAT.out C).mono ?_
  rintro e w4 ⟨t, b, rfl, m4⟩
  rw [hLq] at m4
  have M4 := Lib.hid m4
  clear m4 M3 hLq
  have hn100 := Int.tmod_eq_emod_of_nonneg (b := 100) hn.1
  have hm100 := Int.tmod_eq_emod_of_nonneg (b := 100) hm.1
  obtain ⟨p, hp⟩ : ∃ p : Nat, n.tmod 100 = p := ⟨(n.tmod 100).toNat, by omega⟩
  obtain ⟨q, hq⟩ : ∃ q : Nat, m.tmod 100 = q := ⟨(m.tmod 100).toNat, by omega⟩
  have hp1 : (p : Int) < 100 := by omega
  have hq1 : (q : Int) < 100 := by omega
  clear hn100 hm100
  have S1 := Lib.hid (run_any M4.out.r3 HC.out p (by omega))
  generalize hR : runS C L p = R at S1
  have HR := Lib.hid hR
  have HOK := Lib.hid (run_ok p C L 0 HC.out M4.out.r3.ok)
  have HR0 : Hid (runG C L 0 p = R) := Lib.hid (by rw [← HR.out]; unfold runS; rw [Int.toNat_natCast])
  rw [HR0.out] at HOK
  obtain ⟨D, E, k, L1⟩ := R
  unfold RunE at S1
  simp only [Ctx.val_arr, Evt.val_arr] at S1
  clear hR HR0
  go_wp2_with (first | (refine wpList_load_part rfl 37 _ rfl B 3 rfl C.arr _ (fun j v h => by rw [M4.out.r5.cel.cell]; exact case_ctx va vc at_ C j v h) Try.underlying37 rfl (by kernel_rfl) ?_))
  refine (S1.out).mono ?_
  rintro e w5 ⟨rfl, m⟩
  have es : (w5.alloc (.cells #[.int .i64 0, .int .i64 0, .int .i64 0, .int .i64 0, .int .i64 0, .int .i64 0, .int .i64 0, .int .i64 0, .int .i64 0, .int .i64 0, .int .i64 0, .int .i64 0, .int .i64 0, .int .i64 0, .int .i64 0, .int .i64 0, .int .i64 0, .int .i64 0] 37)).heap.size = w5.heap.size + 1 := by simp
  have Na := Lib.hid ((m.newcel 37 #[.int .i64 0, .int .i64 0, .int .i64 0, .int .i64 0, .int .i64 0, .int .i64 0, .int .i64 0, .int .i64 0, .int .i64 0, .int .i64 0, .int .i64 0, .int .i64 0, .int .i64 0, .int .i64 0, .int .i64 0, .int .i64 0, .int .i64 0, .int .i64 0]).newcel 40 #[.int .i64 0, .int .i64 0, .int .i64 0, .int .i64 0, .int .i64 0])
  rw [es] at Na
  have Nb := Lib.hid (Na.out.swap.setrow D.arr).swap
  have Nc := Lib.hid (Nb.out.setrow E.arr)
  go_upto_region 8 with (first | (refine wpList_store_row rfl 37 _ _ rfl w5.heap.size D.arr rfl rfl 37 #[.int .i64 0, .int .i64 0, .int .i64 0, .int .i64 0, .int .i64 0, .int .i64 0, .int .i64 0, .int .i64 0, .int .i64 0, .int .i64 0, .int .i64 0, .int .i64 0, .int .i64 0, .int .i64 0, .int .i64 0, .int .i64 0, .int .i64 0, .int .i64 0] Na.out.swap.cel (by kernel_rfl) rfl (by kernel_rfl) ?_) | (refine wpList_store_row rfl 40 _ _ rfl (w5.heap.size + 1) E.arr rfl rfl 40 #[.int .i64 0, .int .i64 0, .int .i64 0, .int .i64 0, .int .i64 0] Nb.out.cel (by kernel_rfl) rfl (by kernel_rfl) ?_))
  obtain ⟨W5, hW⟩ : ∃ W5, (((w5.alloc (.cells #[.int .i64 0, .int .i64 0, .int .i64 0, .int .i64 0, .int .i64 0, .int .i64 0, .int .i64 0, .int .i64 0, .int .i64 0, .int .i64 0, .int .i64 0, .int .i64 0, .int .i64 0, .int .i64 0, .int .i64 0, .int .i64 0, .int .i64 0, .int .i64 0] 37)).alloc (.cells #[.int .i64 0, .int .i64 0, .int .i64 0, .int .i64 0, .int .i64 0] 40)).setRow w5.heap.size D.arr).setRow (w5.heap.size + 1) E.arr = W5 := ⟨_, rfl⟩
  have N5 := Nc
  rw [hW] at N5 ⊢
  clear hW es Na Nb Nc m S1
  generalize w5.heap.size + 1 = e5 at N5 ⊢
  generalize w5.heap.size = x5 at N5 ⊢
  obtain ⟨ek, en, ea, eb, ef⟩ := E
  have k0 : W5.cell? ⟨e5, 0, none⟩ = some (.int .i64 ek) := by rw [N5.out.cel.cell]; rfl
  by_cases h6 : ek = 6
  · subst h6
    have S2 := Lib.hid (run_any N5.out.r3 HOK.out.1 q (by omega))
    generalize hR2 : runS D L1 q = R2 at S2
    obtain ⟨D2, E2, k2, L2⟩ := R2
    obtain ⟨hk, hk0, hk1, hPQ⟩ := run_parts HR.out rfl hR2
    rw [Int.natCast_add] at hPQ
    subst hk
    have HPQ := Lib.hid hPQ
    unfold RunE at S2
    simp only [Ctx.val_arr, Evt.val_arr] at S2
    clear hR2 HR hPQ M4
    go_wp2_with (first | (refine wpList_load_rowW rfl 37 _ rfl x5 rfl D.arr _ N5.out.swap.cel Try.underlying37 rfl (by kernel_rfl) ?_))
    refine (S2.out).mono ?_
    rintro e w6 ⟨rfl, m⟩
    have Na := Lib.hid (m.r3.setrow D2.arr)
    have Nb := Lib.hid (Na.out.r3.setrow E2.arr)
    go_upto_region 11 with (first | (refine wpList_store_row rfl 37 _ _ rfl x5 D2.arr rfl rfl 37 D.arr m.r3.cel (by kernel_rfl) rfl (by kernel_rfl) ?_) | (refine wpList_store_row rfl 40 _ _ rfl e5 E2.arr rfl rfl 40 (⟨6, en, ea, eb, ef⟩ : Evt).arr Na.out.r3.cel (by kernel_rfl) rfl (by kernel_rfl) ?_))
    obtain ⟨W6, hW⟩ : ∃ W6, (w6.setRow x5 D2.arr).setRow e5 E2.arr = W6 := ⟨_, rfl⟩
    rw [hW] at Nb ⊢
    clear hW Na m S2 N5 k0
    have S3 := Lib.hid (run_any Nb.out.r4 HC.out ((p : Int) + (q : Int)) (by omega))
    rw [HPQ.out] at S3
    unfold RunE at S3
    simp only [Ctx.val_arr, Evt.val_arr] at S3
    go_wp2_with (first | (refine wpList_load_part rfl 37 _ rfl B 3 rfl C.arr _ (fun j v h => by rw [Nb.out.r7.cel.cell]; exact case_ctx va vc at_ C j v h) Try.underlying37 rfl (by kernel_rfl) ?_))
    refine (S3.out).mono ?_
    rintro e w7 ⟨rfl, m⟩
    have es : (w7.alloc (.cells #[.int .i64 0, .int .i64 0, .int .i64 0, .int .i64 0, .int .i64 0, .int .i64 0, .int .i64 0, .int .i64 0, .int .i64 0, .int .i64 0, .int .i64 0, .int .i64 0, .int .i64 0, .int .i64 0, .int .i64 0, .int .i64 0, .int .i64 0, .int .i64 0] 37)).heap.size = w7.heap.size + 1 := by simp
    have Na := Lib.hid ((m.newcel 37 #[.int .i64 0, .int .i64 0, .int .i64 0, .int .i64 0, .int .i64 0, .int .i64 0, .int .i64 0, .int .i64 0, .int .i64 0, .int .i64 0, .int .i64 0, .int .i64 0, .int .i64 0, .int .i64 0, .int .i64 0, .int .i64 0, .int .i64 0, .int .i64 0]).newcel 40 #[.int .i64 0, .int .i64 0, .int .i64 0, .int .i64 0, .int .i64 0])
    rw [es] at Na
    have Nb := Lib.hid (Na.out.swap.setrow D2.arr).swap
    have Nc := Lib.hid (Nb.out.setrow E2.arr)
    go_upto_region 12 with (first | (refine wpList_store_row rfl 37 _ _ rfl w7.heap.size D2.arr rfl rfl 37 #[.int .i64 0, .int .i64 0, .int .i64 0, .int .i64 0, .int .i64 0, .int .i64 0, .int .i64 0, .int .i64 0, .int .i64 0, .int .i64 0, .int .i64 0, .int .i64 0, .int .i64 0, .int .i64 0, .int .i64 0, .int .i64 0, .int .i64 0, .int .i64 0] Na.out.swap.cel (by kernel_rfl) rfl (by kernel_rfl) ?_) | (refine wpList_store_row rfl 40 _ _ rfl (w7.heap.size + 1) E2.arr rfl rfl 40 #[.int .i64 0, .int .i64 0, .int .i64 0, .int .i64 0, .int .i64 0] Nb.out.cel (by kernel_rfl) rfl (by kernel_rfl) ?_))
    obtain ⟨W7, hW⟩ : ∃ W7, (((w7.alloc (.cells #[.int .i64 0, .int .i64 0, .int .i64 0, .int .i64 0, .int .i64 0, .int .i64 0, .int .i64 0, .int .i64 0, .int .i64 0, .int .i64 0, .int .i64 0, .int .i64 0, .int .i64 0, .int .i64 0, .int .i64 0, .int .i64 0, .int .i64 0, .int .i64 0] 37)).alloc (.cells #[.int .i64 0, .int .i64 0, .int .i64 0, .int .i64 0, .int .i64 0] 40)).setRow w7.heap.size D2.arr).setRow (w7.heap.size + 1) E2.arr = W7 := ⟨_, rfl⟩
    have N7 := Nc
    rw [hW] at N7 ⊢
    clear hW es Na Nb Nc m S3
    generalize w7.heap.size + 1 = e7 at N7 ⊢
    generalize w7.heap.size = x7 at N7 ⊢
    clear Nb
    go_wp2_with (first | (refine wpList_load_rowW rfl 37 _ rfl x5 rfl D2.arr _ N7.out.r5.cel Try.underlying37 rfl (by kernel_rfl) ?_) | (refine wpList_load_rowW rfl 37 _ rfl x7 rfl D2.arr _ N7.out.swap.cel Try.underlying37 rfl (by kernel_rfl) ?_) | (refine wpList_load_rowW rfl 40 _ rfl e5 rfl E2.arr _ N7.out.r4.cel Try.underlying40 rfl (by kernel_rfl) ?_) | (refine wpList_load_rowW rfl 40 _ rfl e7 rfl E2.arr _ N7.out.cel Try.underlying40 rfl (by kernel_rfl) ?_) | (refine wpList_eql_self rfl 37 _ _ _ rfl D2.arr rfl rfl (by kernel_rfl) (eql_ctx D2) ?_) | (refine wpList_eql_self rfl 40 _ _ _ rfl E2.arr rfl rfl (by kernel_rfl) (eql_evt E2) ?_))
    have MZ := Lib.hid N7.out.bel
    clear N7
    go_wp2
    go_ret
    exact ⟨rfl, by rw [HBQ.out]; exact MZ.out⟩
  · have tn : (ek != 6) = true := bne_iff_ne.2 h6
    have MZ := Lib.hid N5.out.bel
    clear HR M4 N5
    go_wp2
    go_ret
    exact ⟨rfl, by rw [HBQ.out]; exact MZ.out⟩

end Go.Proofs.Ytkpaeogjefjbfaa
