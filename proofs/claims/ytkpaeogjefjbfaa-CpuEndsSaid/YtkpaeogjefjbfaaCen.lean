/-
  Layer 6: the walk of CpuEnds.
  Conditions: none. (My own text.)
-/
import Derived.Test.YtkpaeogjefjbfaaCop
import Derived.Test.YtkpaeogjefjbfaaCaw
namespace Go.Proofs.Ytkpaeogjefjbfaa
open Go.RowKit Spm
set_option linter.unusedVariables false
set_option linter.unusedSimpArgs false

theorem ends_run (cx : Ctx) (L : List Rg) (h : cx.pc = 0) (most : Int) : runS cx L most = (cx, ⟨1, 0, 0, 0, 0⟩, 0, L) := by
  have hs : stepS cx L = (cx, ⟨1, 0, 0, 0, 0⟩, L) := by unfold stepS; rw [if_pos h]
  unfold runS
  cases most.toNat with
  | zero => unfold runG; rw [if_pos h]
  | succ m => unfold runG; rw [hs]; rfl
theorem ends_step (cx : Ctx) (L : List Rg) (h : cx.pc = 0) : stepS cx L = (cx, ⟨1, 0, 0, 0, 0⟩, L) := by unfold stepS; rw [if_pos h]

set_option maxRecDepth 100000 in
set_option maxHeartbeats 8000000 in
theorem ends_walk (va vc : Value) (l : List ActM) (is : List Ins) (at_ : Int) (C : Ctx) (most : Int) (w : World) (hv : ActsV w w.heap.size va l) (hi : RowsAt 5 Ins.cells w (fun k => k < w.heap.size) vc is) (hat : I64 at_) (hC : CtxOk C) (hm : most ≤ 9223372036854775807) : Calls Try.prog 9 #[.agg (caseA va vc at_ C), .int .i64 most] w fun e w' => e = .returned (.bool true) ∧ Below w.heap.size w w' := by
  have HB := Lib.hid ((Has.start (Below.refl w.heap.size w) (Nat.le_refl _)).newcel 46 #[va, vc, .int .i64 at_, .int .i64 C.pc, .int .i64 C.tp, .int .i64 (C.r 0), .int .i64 (C.r 1), .int .i64 (C.r 2), .int .i64 (C.r 3), .int .i64 (C.r 4), .int .i64 (C.r 5), .int .i64 (C.r 6), .int .i64 (C.r 7), .int .i64 (C.r 8), .int .i64 (C.r 9), .int .i64 (C.r 10), .int .i64 (C.r 11), .int .i64 (C.r 12), .int .i64 (C.r 13), .int .i64 (C.r 14), .int .i64 (C.r 15)])
  have HV := Lib.hid hv
  have HI := Lib.hid hi
  have HAT := Lib.hid hat
  have HC := Lib.hid hC
  clear hv hi hat hC
  unfold caseA
  go_enter Try.func9, Try.ntmps9
  go_wp2_with fail
  obtain ⟨w1, hw1⟩ : ∃ w1, w.alloc (.cells #[va, vc, .int .i64 at_, .int .i64 C.pc, .int .i64 C.tp, .int .i64 (C.r 0), .int .i64 (C.r 1), .int .i64 (C.r 2), .int .i64 (C.r 3), .int .i64 (C.r 4), .int .i64 (C.r 5), .int .i64 (C.r 6), .int .i64 (C.r 7), .int .i64 (C.r 8), .int .i64 (C.r 9), .int .i64 (C.r 10), .int .i64 (C.r 11), .int .i64 (C.r 12), .int .i64 (C.r 13), .int .i64 (C.r 14), .int .i64 (C.r 15)] 46) = w1 := ⟨_, rfl⟩
  rw [hw1] at HB ⊢
  clear hw1
  generalize hBq : w.heap.size = B at HB HV HI ⊢
  have HBQ := Lib.hid hBq
  clear hBq
  have HB1 : Hid (Has B w w1 (Star (Cel B 46 (caseA va vc at_ C)) Emp)) := HB
  clear HB
  refine (awake06 w1).mono ?_
  rintro e w2 ⟨rfl, hb, hl⟩
  have M2 := Lib.hid (HB1.out.stay hb)
  clear hb hl HB1
  go_wp2_with (first | (refine wpList_load_rowW rfl 46 _ rfl B rfl (caseA va vc at_ C) _ M2.out.cel Try.underlying46 rfl (by kernel_rfl) ?_))
  refine (both_at M2.out HV.out HI.out HAT.out C).mono ?_
  rintro e w3 ⟨a, c, rfl, m3⟩
  obtain ⟨L, hLq⟩ : ∃ L, (codeS (playS [] (l.map (·.x))) at_ is).1 = L := ⟨_, rfl⟩
  rw [hLq] at m3
  have M3 := Lib.hid m3
  clear m3 M2
  obtain ⟨C0, hC0⟩ : ∃ C0 : Ctx, C0 = { C with pc := 0 } := ⟨_, rfl⟩
  have HC0 : Hid (CtxOk C0) := Lib.hid (by rw [hC0]; exact HC.out.pcs ⟨by decide, by decide⟩)
  have hz : C0.pc = 0 := by rw [hC0]
  have M4 := Lib.hid (M3.out.r3.store 3 (.int .i64 0))
  rw [case_pc, ← hC0] at M4
  have f3 := M3.out.r3.cel.free 3
  have c3 : w3.cell? ⟨B, 3, none⟩ = some (.int .i64 C.pc) := by rw [M3.out.r3.cel.cell]; rfl
  have S1 := Lib.hid (step_any M4.out.swap HC0.out)
  rw [ends_step C0 L hz] at S1
  simp only [Ctx.val_arr, Evt.val_arr] at S1
  clear hC0 hLq
  have HZ := Lib.hid hz
  clear hz
  go_wp2_with (first | (refine wpList_load_part rfl 37 _ rfl B 3 rfl C0.arr _ (fun j v h => by rw [M4.out.cel.cell]; exact case_ctx va vc at_ C0 j v h) Try.underlying37 rfl (by kernel_rfl) ?_))
  refine (S1.out).mono ?_
  rintro e w5 ⟨rfl, m⟩
  have es : (w5.alloc (.cells #[.int .i64 0, .int .i64 0, .int .i64 0, .int .i64 0, .int .i64 0, .int .i64 0, .int .i64 0, .int .i64 0, .int .i64 0, .int .i64 0, .int .i64 0, .int .i64 0, .int .i64 0, .int .i64 0, .int .i64 0, .int .i64 0, .int .i64 0, .int .i64 0] 37)).heap.size = w5.heap.size + 1 := by simp
  have Na := Lib.hid ((m.newcel 37 #[.int .i64 0, .int .i64 0, .int .i64 0, .int .i64 0, .int .i64 0, .int .i64 0, .int .i64 0, .int .i64 0, .int .i64 0, .int .i64 0, .int .i64 0, .int .i64 0, .int .i64 0, .int .i64 0, .int .i64 0, .int .i64 0, .int .i64 0, .int .i64 0]).newcel 40 #[.int .i64 0, .int .i64 0, .int .i64 0, .int .i64 0, .int .i64 0])
  rw [es] at Na
  have Nb := Lib.hid (Na.out.swap.setrow C0.arr).swap
  have Nc := Lib.hid (Nb.out.setrow #[.int .i64 1, .int .i64 0, .int .i64 0, .int .i64 0, .int .i64 0])
  go_upto_region 7 with (first | (refine wpList_store_row rfl 37 _ _ rfl w5.heap.size C0.arr rfl rfl 37 #[.int .i64 0, .int .i64 0, .int .i64 0, .int .i64 0, .int .i64 0, .int .i64 0, .int .i64 0, .int .i64 0, .int .i64 0, .int .i64 0, .int .i64 0, .int .i64 0, .int .i64 0, .int .i64 0, .int .i64 0, .int .i64 0, .int .i64 0, .int .i64 0] Na.out.swap.cel (by kernel_rfl) rfl (by kernel_rfl) ?_) | (refine wpList_store_row rfl 40 _ _ rfl (w5.heap.size + 1) #[.int .i64 1, .int .i64 0, .int .i64 0, .int .i64 0, .int .i64 0] rfl rfl 40 #[.int .i64 0, .int .i64 0, .int .i64 0, .int .i64 0, .int .i64 0] Nb.out.cel (by kernel_rfl) rfl (by kernel_rfl) ?_))
  obtain ⟨W5, hW⟩ : ∃ W5, (((w5.alloc (.cells #[.int .i64 0, .int .i64 0, .int .i64 0, .int .i64 0, .int .i64 0, .int .i64 0, .int .i64 0, .int .i64 0, .int .i64 0, .int .i64 0, .int .i64 0, .int .i64 0, .int .i64 0, .int .i64 0, .int .i64 0, .int .i64 0, .int .i64 0, .int .i64 0] 37)).alloc (.cells #[.int .i64 0, .int .i64 0, .int .i64 0, .int .i64 0, .int .i64 0] 40)).setRow w5.heap.size C0.arr).setRow (w5.heap.size + 1) #[.int .i64 1, .int .i64 0, .int .i64 0, .int .i64 0, .int .i64 0] = W5 := ⟨_, rfl⟩
  have N5 := Nc
  rw [hW] at N5 ⊢
  clear hW es Na Nb Nc m S1
  generalize w5.heap.size + 1 = e5 at N5 ⊢
  generalize w5.heap.size = x5 at N5 ⊢
  clear f3 c3 M3 M4
  have S2 := Lib.hid (run_any N5.out.r3 HC0.out most hm)
  rw [ends_run C0 L HZ.out most] at S2
  unfold RunE at S2
  simp only [Ctx.val_arr, Evt.val_arr] at S2
  go_wp2_with (first | (refine wpList_load_part rfl 37 _ rfl B 3 rfl C0.arr _ (fun j v h => by rw [N5.out.r4.cel.cell]; exact case_ctx va vc at_ C0 j v h) Try.underlying37 rfl (by kernel_rfl) ?_))
  refine (S2.out).mono ?_
  rintro e w6 ⟨rfl, m⟩
  have es : (w6.alloc (.cells #[.int .i64 0, .int .i64 0, .int .i64 0, .int .i64 0, .int .i64 0, .int .i64 0, .int .i64 0, .int .i64 0, .int .i64 0, .int .i64 0, .int .i64 0, .int .i64 0, .int .i64 0, .int .i64 0, .int .i64 0, .int .i64 0, .int .i64 0, .int .i64 0] 37)).heap.size = w6.heap.size + 1 := by simp
  have Na := Lib.hid ((m.newcel 37 #[.int .i64 0, .int .i64 0, .int .i64 0, .int .i64 0, .int .i64 0, .int .i64 0, .int .i64 0, .int .i64 0, .int .i64 0, .int .i64 0, .int .i64 0, .int .i64 0, .int .i64 0, .int .i64 0, .int .i64 0, .int .i64 0, .int .i64 0, .int .i64 0]).newcel 40 #[.int .i64 0, .int .i64 0, .int .i64 0, .int .i64 0, .int .i64 0])
  rw [es] at Na
  have Nb := Lib.hid (Na.out.swap.setrow C0.arr).swap
  have Nc := Lib.hid (Nb.out.setrow #[.int .i64 1, .int .i64 0, .int .i64 0, .int .i64 0, .int .i64 0])
  go_upto_region 8 with (first | (refine wpList_store_row rfl 37 _ _ rfl w6.heap.size C0.arr rfl rfl 37 #[.int .i64 0, .int .i64 0, .int .i64 0, .int .i64 0, .int .i64 0, .int .i64 0, .int .i64 0, .int .i64 0, .int .i64 0, .int .i64 0, .int .i64 0, .int .i64 0, .int .i64 0, .int .i64 0, .int .i64 0, .int .i64 0, .int .i64 0, .int .i64 0] Na.out.swap.cel (by kernel_rfl) rfl (by kernel_rfl) ?_) | (refine wpList_store_row rfl 40 _ _ rfl (w6.heap.size + 1) #[.int .i64 1, .int .i64 0, .int .i64 0, .int .i64 0, .int .i64 0] rfl rfl 40 #[.int .i64 0, .int .i64 0, .int .i64 0, .int .i64 0, .int .i64 0] Nb.out.cel (by kernel_rfl) rfl (by kernel_rfl) ?_))
  obtain ⟨W6, hW⟩ : ∃ W6, (((w6.alloc (.cells #[.int .i64 0, .int .i64 0, .int .i64 0, .int .i64 0, .int .i64 0, .int .i64 0, .int .i64 0, .int .i64 0, .int .i64 0, .int .i64 0, .int .i64 0, .int .i64 0, .int .i64 0, .int .i64 0, .int .i64 0, .int .i64 0, .int .i64 0, .int .i64 0] 37)).alloc (.cells #[.int .i64 0, .int .i64 0, .int .i64 0, .int .i64 0, .int .i64 0] 40)).setRow w6.heap.size C0.arr).setRow (w6.heap.size + 1) #[.int .i64 1, .int .i64 0, .int .i64 0, .int .i64 0, .int .i64 0] = W6 := ⟨_, rfl⟩
  have N6 := Nc
  rw [hW] at N6 ⊢
  clear hW es Na Nb Nc m S2
  generalize w6.heap.size + 1 = e6 at N6 ⊢
  generalize w6.heap.size = x6 at N6 ⊢
  clear N5
  have N7 := Lib.hid (N6.out.newcel 40 #[.int .i64 0, .int .i64 0, .int .i64 0, .int .i64 0, .int .i64 0])
  have N8 := Lib.hid (N7.out.setrow #[.int .i64 1, .int .i64 0, .int .i64 0, .int .i64 0, .int .i64 0])
  go_upto_region 9 with (first | (refine wpList_store_row rfl 40 _ _ rfl W6.heap.size #[.int .i64 1, .int .i64 0, .int .i64 0, .int .i64 0, .int .i64 0] rfl rfl 40 #[.int .i64 0, .int .i64 0, .int .i64 0, .int .i64 0, .int .i64 0] N7.out.cel (by kernel_rfl) rfl (by kernel_rfl) ?_))
  obtain ⟨W8, hW⟩ : ∃ W8, (W6.alloc (.cells #[.int .i64 0, .int .i64 0, .int .i64 0, .int .i64 0, .int .i64 0] 40)).setRow W6.heap.size #[.int .i64 1, .int .i64 0, .int .i64 0, .int .i64 0, .int .i64 0] = W8 := ⟨_, rfl⟩
  rw [hW] at N8 ⊢
  clear hW N7 N6
  generalize W6.heap.size = e8 at N8 ⊢
  go_wp2_with (first | (refine wpList_load_rowW rfl 37 _ rfl x5 rfl C0.arr _ N8.out.r6.cel Try.underlying37 rfl (by kernel_rfl) ?_) | (refine wpList_load_rowW rfl 37 _ rfl x6 rfl C0.arr _ N8.out.r3.cel Try.underlying37 rfl (by kernel_rfl) ?_) | (refine wpList_load_rowW rfl 40 _ rfl e5 rfl #[.int .i64 1, .int .i64 0, .int .i64 0, .int .i64 0, .int .i64 0] _ N8.out.r5.cel Try.underlying40 rfl (by kernel_rfl) ?_) | (refine wpList_load_rowW rfl 40 _ rfl e6 rfl #[.int .i64 1, .int .i64 0, .int .i64 0, .int .i64 0, .int .i64 0] _ N8.out.swap.cel Try.underlying40 rfl (by kernel_rfl) ?_) | (refine wpList_load_rowW rfl 40 _ rfl e8 rfl #[.int .i64 1, .int .i64 0, .int .i64 0, .int .i64 0, .int .i64 0] _ N8.out.cel Try.underlying40 rfl (by kernel_rfl) ?_) | (refine wpList_load_part rfl 37 _ rfl B 3 rfl C0.arr _ (fun j v h => by rw [N8.out.r7.cel.cell]; exact case_ctx va vc at_ C0 j v h) Try.underlying37 rfl (by kernel_rfl) ?_) | (refine wpList_eql_self rfl 37 _ _ _ rfl C0.arr rfl rfl (by kernel_rfl) (eql_ctx C0) ?_) | (refine wpList_eql_self rfl 40 _ _ _ rfl (⟨1, 0, 0, 0, 0⟩ : Evt).arr rfl rfl (by kernel_rfl) (eql_evt (⟨1, 0, 0, 0, 0⟩ : Evt)) ?_))
  have A1 := Lib.hid (alike06 N8.out.r8.r5)
  refine (A1.out).mono ?_
  rintro e wz ⟨rfl, mz⟩
  have MZ := Lib.hid mz.bel
  clear mz A1 N8
  go_wp2
  go_ret
  exact ⟨rfl, by rw [HBQ.out]; exact MZ.out⟩
end Go.Proofs.Ytkpaeogjefjbfaa
