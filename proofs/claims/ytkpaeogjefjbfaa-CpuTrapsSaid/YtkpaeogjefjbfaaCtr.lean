/-
  Layer 6: the walk of CpuTraps.
  Conditions: none. (My own text.)
-/
import Derived.Test.YtkpaeogjefjbfaaCop
import Derived.Test.YtkpaeogjefjbfaaCaw
import Derived.Test.YtkpaeogjefjbfaaCpt
namespace Go.Proofs.Ytkpaeogjefjbfaa
open Go.RowKit Spm
set_option linter.unusedVariables false
set_option linter.unusedSimpArgs false

set_option maxRecDepth 100000 in
set_option maxHeartbeats 8000000 in
theorem traps_walk (va vc : Value) (l : List ActM) (is : List Ins) (at_ : Int) (C : Ctx)  (w : World) (hv : ActsV w w.heap.size va l) (hi : RowsAt 5 Ins.cells w (fun k => k < w.heap.size) vc is) (hat : I64 at_) (hC : CtxOk C)  : Calls Try.prog 7 #[.agg (caseA va vc at_ C)] w fun e w' => e = .returned (.bool true) ∧ Below w.heap.size w w' := by
  have HB := Lib.hid ((Has.start (Below.refl w.heap.size w) (Nat.le_refl _)).newcel 46 #[va, vc, .int .i64 at_, .int .i64 C.pc, .int .i64 C.tp, .int .i64 (C.r 0), .int .i64 (C.r 1), .int .i64 (C.r 2), .int .i64 (C.r 3), .int .i64 (C.r 4), .int .i64 (C.r 5), .int .i64 (C.r 6), .int .i64 (C.r 7), .int .i64 (C.r 8), .int .i64 (C.r 9), .int .i64 (C.r 10), .int .i64 (C.r 11), .int .i64 (C.r 12), .int .i64 (C.r 13), .int .i64 (C.r 14), .int .i64 (C.r 15)])
  have HV := Lib.hid hv
  have HI := Lib.hid hi
  have HAT := Lib.hid hat
  have HC := Lib.hid hC
  clear hv hi hat hC
  unfold caseA
  go_enter Try.func7, Try.ntmps7
  go_wp2_with fail
  obtain ⟨w1, hw1⟩ : ∃ w1, w.alloc (.cells #[va, vc, .int .i64 at_, .int .i64 C.pc, .int .i64 C.tp, .int .i64 (C.r 0), .int .i64 (C.r 1), .int .i64 (C.r 2), .int .i64 (C.r 3), .int .i64 (C.r 4), .int .i64 (C.r 5), .int .i64 (C.r 6), .int .i64 (C.r 7), .int .i64 (C.r 8), .int .i64 (C.r 9), .int .i64 (C.r 10), .int .i64 (C.r 11), .int .i64 (C.r 12), .int .i64 (C.r 13), .int .i64 (C.r 14), .int .i64 (C.r 15)] 46) = w1 := ⟨_, rfl⟩
  rw [hw1] at HB ⊢
  clear hw1
  generalize hBq : w.heap.size = B at HB HV HI ⊢
  have HBQ := Lib.hid hBq
  clear hBq
  have HB1 : Hid (Has B w w1 (Star (Cel B 46 (caseA va vc at_ C)) Emp)) := HB
  clear HB
  refine (awake06 w1).mono ?_
  rintro e w2 ⟨rfl, hb, hl⟩
  have M2 := Lib.hid (HB1.out.stay hb)
  clear hb hl HB1
  go_wp2_with (first | (refine wpList_load_rowW rfl 46 _ rfl B rfl (caseA va vc at_ C) _ M2.out.cel Try.underlying46 rfl (by kernel_rfl) ?_))
  refine (both_at M2.out HV.out HI.out HAT.out C).mono ?_
  rintro e w3 ⟨a, c, rfl, m3⟩
  obtain ⟨L, hLq⟩ : ∃ L, (codeS (playS [] (l.map (·.x))) at_ is).1 = L := ⟨_, rfl⟩
  rw [hLq] at m3
  have M3 := Lib.hid m3
  clear m3 M2
  have S1 := Lib.hid (step_any M3.out HC.out)
  have HS := Lib.hid (stepS_evt C L)
  generalize hR : stepS C L = R at S1 HS
  have HR := Lib.hid hR
  obtain ⟨D, E, L2⟩ := R
  simp only [Ctx.val_arr, Evt.val_arr] at S1
  clear hLq hR
  go_wp2_with (first | (refine wpList_load_part rfl 37 _ rfl B 3 rfl C.arr _ (fun j v h => by rw [M3.out.r3.cel.cell]; exact case_ctx va vc at_ C j v h) Try.underlying37 rfl (by kernel_rfl) ?_))
  refine (S1.out).mono ?_
  rintro e w5 ⟨rfl, m⟩
  have es : (w5.alloc (.cells #[.int .i64 0, .int .i64 0, .int .i64 0, .int .i64 0, .int .i64 0, .int .i64 0, .int .i64 0, .int .i64 0, .int .i64 0, .int .i64 0, .int .i64 0, .int .i64 0, .int .i64 0, .int .i64 0, .int .i64 0, .int .i64 0, .int .i64 0, .int .i64 0] 37)).heap.size = w5.heap.size + 1 := by simp
  have Na := Lib.hid ((m.newcel 37 #[.int .i64 0, .int .i64 0, .int .i64 0, .int .i64 0, .int .i64 0, .int .i64 0, .int .i64 0, .int .i64 0, .int .i64 0, .int .i64 0, .int .i64 0, .int .i64 0, .int .i64 0, .int .i64 0, .int .i64 0, .int .i64 0, .int .i64 0, .int .i64 0]).newcel 40 #[.int .i64 0, .int .i64 0, .int .i64 0, .int .i64 0, .int .i64 0])
  rw [es] at Na
  have Nb := Lib.hid (Na.out.swap.setrow D.arr).swap
  have Nc := Lib.hid (Nb.out.setrow E.arr)
  go_upto_region 6 with (first | (refine wpList_store_row rfl 37 _ _ rfl w5.heap.size D.arr rfl rfl 37 #[.int .i64 0, .int .i64 0, .int .i64 0, .int .i64 0, .int .i64 0, .int .i64 0, .int .i64 0, .int .i64 0, .int .i64 0, .int .i64 0, .int .i64 0, .int .i64 0, .int .i64 0, .int .i64 0, .int .i64 0, .int .i64 0, .int .i64 0, .int .i64 0] Na.out.swap.cel (by kernel_rfl) rfl (by kernel_rfl) ?_) | (refine wpList_store_row rfl 40 _ _ rfl (w5.heap.size + 1) E.arr rfl rfl 40 #[.int .i64 0, .int .i64 0, .int .i64 0, .int .i64 0, .int .i64 0] Nb.out.cel (by kernel_rfl) rfl (by kernel_rfl) ?_))
  obtain ⟨W5, hW⟩ : ∃ W5, (((w5.alloc (.cells #[.int .i64 0, .int .i64 0, .int .i64 0, .int .i64 0, .int .i64 0, .int .i64 0, .int .i64 0, .int .i64 0, .int .i64 0, .int .i64 0, .int .i64 0, .int .i64 0, .int .i64 0, .int .i64 0, .int .i64 0, .int .i64 0, .int .i64 0, .int .i64 0] 37)).alloc (.cells #[.int .i64 0, .int .i64 0, .int .i64 0, .int .i64 0, .int .i64 0] 40)).setRow w5.heap.size D.arr).setRow (w5.heap.size + 1) E.arr = W5 := ⟨_, rfl⟩
  have N5 := Nc
  rw [hW] at N5 ⊢
  clear hW es Na Nb Nc m S1
  generalize w5.heap.size + 1 = e5 at N5 ⊢
  generalize w5.heap.size = x5 at N5 ⊢
  obtain ⟨ek, en, ea, eb, ef⟩ := E
  have k0 : W5.cell? ⟨e5, 0, none⟩ = some (.int .i64 ek) := by rw [N5.out.cel.cell]; rfl
  have k4 : W5.cell? ⟨e5, 4, none⟩ = some (.int .i64 ef) := by rw [N5.out.cel.cell]; rfl
  by_cases h5 : ek = 5
  · subst h5
    obtain ⟨t1, t2, t3⟩ := HS.out.trap rfl
    simp only at t1 t2 t3
    subst t2 t3
    have tn : (ef != 0) = true := bne_iff_ne.2 t1
    have tq : (ef == 0) = false := beq_eq_false_iff_ne.2 t1
    have S2 := Lib.hid (step_any N5.out.r3 HC.out)
    rw [HR.out] at S2
    simp only [Ctx.val_arr, Evt.val_arr] at S2
    clear HS HR M3
    have T1 := Lib.hid t1
    clear t1
    go_wp2_with (first | (refine wpList_load_rowW rfl 37 _ rfl x5 rfl D.arr _ N5.out.swap.cel Try.underlying37 rfl (by kernel_rfl) ?_))
    refine (S2.out).mono ?_
    rintro e w6 ⟨rfl, m⟩
    have es : (w6.alloc (.cells #[.int .i64 0, .int .i64 0, .int .i64 0, .int .i64 0, .int .i64 0, .int .i64 0, .int .i64 0, .int .i64 0, .int .i64 0, .int .i64 0, .int .i64 0, .int .i64 0, .int .i64 0, .int .i64 0, .int .i64 0, .int .i64 0, .int .i64 0, .int .i64 0] 37)).heap.size = w6.heap.size + 1 := by simp
    have Na := Lib.hid ((m.newcel 37 #[.int .i64 0, .int .i64 0, .int .i64 0, .int .i64 0, .int .i64 0, .int .i64 0, .int .i64 0, .int .i64 0, .int .i64 0, .int .i64 0, .int .i64 0, .int .i64 0, .int .i64 0, .int .i64 0, .int .i64 0, .int .i64 0, .int .i64 0, .int .i64 0]).newcel 40 #[.int .i64 0, .int .i64 0, .int .i64 0, .int .i64 0, .int .i64 0])
    rw [es] at Na
    have Nb := Lib.hid (Na.out.swap.setrow D.arr).swap
    have Nc := Lib.hid (Nb.out.setrow (⟨5, en, ea, eb, ef⟩ : Evt).arr)
    go_upto_region 9 with (first | (refine wpList_store_row rfl 37 _ _ rfl w6.heap.size D.arr rfl rfl 37 #[.int .i64 0, .int .i64 0, .int .i64 0, .int .i64 0, .int .i64 0, .int .i64 0, .int .i64 0, .int .i64 0, .int .i64 0, .int .i64 0, .int .i64 0, .int .i64 0, .int .i64 0, .int .i64 0, .int .i64 0, .int .i64 0, .int .i64 0, .int .i64 0] Na.out.swap.cel (by kernel_rfl) rfl (by kernel_rfl) ?_) | (refine wpList_store_row rfl 40 _ _ rfl (w6.heap.size + 1) (⟨5, en, ea, eb, ef⟩ : Evt).arr rfl rfl 40 #[.int .i64 0, .int .i64 0, .int .i64 0, .int .i64 0, .int .i64 0] Nb.out.cel (by kernel_rfl) rfl (by kernel_rfl) ?_))
    obtain ⟨W6, hW⟩ : ∃ W6, (((w6.alloc (.cells #[.int .i64 0, .int .i64 0, .int .i64 0, .int .i64 0, .int .i64 0, .int .i64 0, .int .i64 0, .int .i64 0, .int .i64 0, .int .i64 0, .int .i64 0, .int .i64 0, .int .i64 0, .int .i64 0, .int .i64 0, .int .i64 0, .int .i64 0, .int .i64 0] 37)).alloc (.cells #[.int .i64 0, .int .i64 0, .int .i64 0, .int .i64 0, .int .i64 0] 40)).setRow w6.heap.size D.arr).setRow (w6.heap.size + 1) (⟨5, en, ea, eb, ef⟩ : Evt).arr = W6 := ⟨_, rfl⟩
    have N6 := Nc
    rw [hW] at N6 ⊢
    clear hW es Na Nb Nc m S2
    generalize w6.heap.size + 1 = e6 at N6 ⊢
    generalize w6.heap.size = x6 at N6 ⊢
    clear k0 k4
    have k4 : W6.cell? ⟨e5, 4, none⟩ = some (.int .i64 ef) := by rw [N6.out.r4.cel.cell]; rfl
    clear N5
    go_wp2_with (first | (refine wpList_load_rowW rfl 37 _ rfl x5 rfl D.arr _ N6.out.r5.cel Try.underlying37 rfl (by kernel_rfl) ?_) | (refine wpList_load_rowW rfl 37 _ rfl x6 rfl D.arr _ N6.out.swap.cel Try.underlying37 rfl (by kernel_rfl) ?_) | (refine wpList_load_rowW rfl 40 _ rfl e5 rfl (⟨5, en, ea, eb, ef⟩ : Evt).arr _ N6.out.r4.cel Try.underlying40 rfl (by kernel_rfl) ?_) | (refine wpList_load_rowW rfl 40 _ rfl e6 rfl (⟨5, en, ea, eb, ef⟩ : Evt).arr _ N6.out.cel Try.underlying40 rfl (by kernel_rfl) ?_) | (refine wpList_load_part rfl 37 _ rfl B 3 rfl D.arr _ (fun j v h => by rw [N6.out.r7.cel.cell]; exact case_ctx va vc at_ D j v h) Try.underlying37 rfl (by kernel_rfl) ?_) | (refine wpList_eql_self rfl 37 _ _ _ rfl D.arr rfl rfl (by kernel_rfl) (eql_ctx D) ?_) | (refine wpList_eql_self rfl 40 _ _ _ rfl (⟨5, en, ea, eb, ef⟩ : Evt).arr rfl rfl (by kernel_rfl) (eql_evt (⟨5, en, ea, eb, ef⟩ : Evt)) ?_))
    have A1 := Lib.hid (alike06 N6.out.r6.r4)
    refine (A1.out).mono ?_
    rintro e wz ⟨rfl, mz⟩
    have MZ := Lib.hid mz.bel
    clear mz A1 N6
    go_wp2
    go_ret
    exact ⟨rfl, by rw [HBQ.out]; exact MZ.out⟩
  · have tz : ef = 0 := HS.out.calm h5
    subst tz
    have tn : (ek != 5) = true := bne_iff_ne.2 h5
    have MZ := Lib.hid N5.out.bel
    clear HS HR M3 N5
    go_wp2
    go_ret
    exact ⟨rfl, by rw [HBQ.out]; exact MZ.out⟩
end Go.Proofs.Ytkpaeogjefjbfaa
