/-
  Layer 6: the document's step: at 0; an instruction that is none; a jump.
  Conditions: none. (My own text.)
-/
import Derived.Test.YtkpaeogjefjbfaaCry
namespace Go.Proofs.Ytkpaeogjefjbfaa
open Go.RowKit Spm
set_option linter.unusedVariables false
set_option linter.unusedSimpArgs false

section
variable {B : Nat} {w wr w' : World} {c : Nat} {L : List Rg} {Y : Res}
set_option maxRecDepth 100000 in
set_option maxHeartbeats 4000000 in
theorem rstep_zero [hY : Fr Y] (h : Has B w wr (Star (Rf c L) Y)) (D : Ctx) (hC : CtxOk D) (h0 : D.pc = 0) : Calls Try.prog 18 #[.agg D.arr, .pointer (some ⟨c, 0, none⟩)] wr (StepE B w c (D, ⟨1, 0, 0, 0, 0⟩, L) Y) := by
  have HC := Lib.hid hC
  clear hC
  have H0 := Lib.hid h0
  clear h0
  rw [show D.arr = #[.int .i64 D.pc, .int .i64 D.tp, .int .i64 (D.r 0), .int .i64 (D.r 1), .int .i64 (D.r 2), .int .i64 (D.r 3), .int .i64 (D.r 4), .int .i64 (D.r 5), .int .i64 (D.r 6), .int .i64 (D.r 7), .int .i64 (D.r 8), .int .i64 (D.r 9), .int .i64 (D.r 10), .int .i64 (D.r 11), .int .i64 (D.r 12), .int .i64 (D.r 13), .int .i64 (D.r 14), .int .i64 (D.r 15)] from rfl]
  have M0 := Lib.hid (((h.newcel 37 #[.int .i64 D.pc, .int .i64 D.tp, .int .i64 (D.r 0), .int .i64 (D.r 1), .int .i64 (D.r 2), .int .i64 (D.r 3), .int .i64 (D.r 4), .int .i64 (D.r 5), .int .i64 (D.r 6), .int .i64 (D.r 7), .int .i64 (D.r 8), .int .i64 (D.r 9), .int .i64 (D.r 10), .int .i64 (D.r 11), .int .i64 (D.r 12), .int .i64 (D.r 13), .int .i64 (D.r 14), .int .i64 (D.r 15)]).newcel 37 #[.int .i64 0, .int .i64 0, .int .i64 0, .int .i64 0, .int .i64 0, .int .i64 0, .int .i64 0, .int .i64 0, .int .i64 0, .int .i64 0, .int .i64 0, .int .i64 0, .int .i64 0, .int .i64 0, .int .i64 0, .int .i64 0, .int .i64 0, .int .i64 0]).newcel 40 #[.int .i64 0, .int .i64 0, .int .i64 0, .int .i64 0, .int .i64 0])
  go_enter Try.func18, Try.ntmps18
  go_upto_region 1 with (fail)
  have e1 : (wr.alloc (.cells #[.int .i64 D.pc, .int .i64 D.tp, .int .i64 (D.r 0), .int .i64 (D.r 1), .int .i64 (D.r 2), .int .i64 (D.r 3), .int .i64 (D.r 4), .int .i64 (D.r 5), .int .i64 (D.r 6), .int .i64 (D.r 7), .int .i64 (D.r 8), .int .i64 (D.r 9), .int .i64 (D.r 10), .int .i64 (D.r 11), .int .i64 (D.r 12), .int .i64 (D.r 13), .int .i64 (D.r 14), .int .i64 (D.r 15)] 37)).heap.size = wr.heap.size + 1 := by simp
  have e2 : ((wr.alloc (.cells #[.int .i64 D.pc, .int .i64 D.tp, .int .i64 (D.r 0), .int .i64 (D.r 1), .int .i64 (D.r 2), .int .i64 (D.r 3), .int .i64 (D.r 4), .int .i64 (D.r 5), .int .i64 (D.r 6), .int .i64 (D.r 7), .int .i64 (D.r 8), .int .i64 (D.r 9), .int .i64 (D.r 10), .int .i64 (D.r 11), .int .i64 (D.r 12), .int .i64 (D.r 13), .int .i64 (D.r 14), .int .i64 (D.r 15)] 37)).alloc (.cells #[.int .i64 0, .int .i64 0, .int .i64 0, .int .i64 0, .int .i64 0, .int .i64 0, .int .i64 0, .int .i64 0, .int .i64 0, .int .i64 0, .int .i64 0, .int .i64 0, .int .i64 0, .int .i64 0, .int .i64 0, .int .i64 0, .int .i64 0, .int .i64 0] 37)).heap.size = wr.heap.size + 1 + 1 := by simp
  rw [e2, e1] at M0
  obtain ⟨W, hW⟩ : ∃ W, (((wr.alloc (.cells #[.int .i64 D.pc, .int .i64 D.tp, .int .i64 (D.r 0), .int .i64 (D.r 1), .int .i64 (D.r 2), .int .i64 (D.r 3), .int .i64 (D.r 4), .int .i64 (D.r 5), .int .i64 (D.r 6), .int .i64 (D.r 7), .int .i64 (D.r 8), .int .i64 (D.r 9), .int .i64 (D.r 10), .int .i64 (D.r 11), .int .i64 (D.r 12), .int .i64 (D.r 13), .int .i64 (D.r 14), .int .i64 (D.r 15)] 37)).alloc (.cells #[.int .i64 0, .int .i64 0, .int .i64 0, .int .i64 0, .int .i64 0, .int .i64 0, .int .i64 0, .int .i64 0, .int .i64 0, .int .i64 0, .int .i64 0, .int .i64 0, .int .i64 0, .int .i64 0, .int .i64 0, .int .i64 0, .int .i64 0, .int .i64 0] 37)).alloc (.cells #[.int .i64 0, .int .i64 0, .int .i64 0, .int .i64 0, .int .i64 0] 40)) = W := ⟨_, rfl⟩
  rw [hW] at M0 ⊢
  clear e1 e2 hW
  generalize wr.heap.size + 1 + 1 = b2 at M0 ⊢
  generalize wr.heap.size + 1 = b1 at M0 ⊢
  generalize wr.heap.size = b0 at M0 ⊢
  have M1 : Hid (Has B w W (Star (Cel b2 40 #[.int .i64 0, .int .i64 0, .int .i64 0, .int .i64 0, .int .i64 0]) (Star (Cel b1 37 #[.int .i64 0, .int .i64 0, .int .i64 0, .int .i64 0, .int .i64 0, .int .i64 0, .int .i64 0, .int .i64 0, .int .i64 0, .int .i64 0, .int .i64 0, .int .i64 0, .int .i64 0, .int .i64 0, .int .i64 0, .int .i64 0, .int .i64 0, .int .i64 0]) (Star (Cel b0 37 D.arr) (Star (Rf c L) Y))))) := M0
  clear M0
  clear h
  have hpc : W.cell? ⟨b0, 0, none⟩ = some (.int .i64 D.pc) := M1.out.cellat b0 0 rfl
  have hz : (D.pc == 0) = true := beq_iff_eq.2 H0.out
  clear HC H0
  have M2 := Lib.hid (M1.out.rowc b1 D.arr)
  have M3 := Lib.hid (M2.out.rowc b2 (⟨1, 0, 0, 0, 0⟩ : Evt).arr)
  go_wp2_with (first | (refine wpList_load_rowW rfl 37 _ rfl b0 rfl D.arr _ (M1.out.getc b0) Try.underlying37 rfl (by kernel_rfl) ?_) | (refine wpList_store_row rfl 37 _ _ rfl b1 D.arr rfl rfl 37 #[.int .i64 0, .int .i64 0, .int .i64 0, .int .i64 0, .int .i64 0, .int .i64 0, .int .i64 0, .int .i64 0, .int .i64 0, .int .i64 0, .int .i64 0, .int .i64 0, .int .i64 0, .int .i64 0, .int .i64 0, .int .i64 0, .int .i64 0, .int .i64 0] (M1.out.getc b1) (by kernel_rfl) rfl (by kernel_rfl) ?_) | (refine wpList_store_row rfl 40 _ _ rfl b2 (⟨1, 0, 0, 0, 0⟩ : Evt).arr rfl rfl 40 #[.int .i64 0, .int .i64 0, .int .i64 0, .int .i64 0, .int .i64 0] (M2.out.getc b2) (by kernel_rfl) rfl (by kernel_rfl) ?_))
  try simp only [Exit.inBlock, Exit.then]
  refine bodyPost_ret (results_cell2_row (p := 4) (u := 5) (ty := 37) (uy := 40) rfl _ _ b1 b2 37 40 D.arr (⟨1, 0, 0, 0, 0⟩ : Evt).arr _ _ (by kernel_rfl) (M3.out.getc b1) Try.underlying37 rfl (by kernel_rfl) (by kernel_rfl) (M3.out.getc b2) Try.underlying40 rfl (by kernel_rfl)) rfl ?_
  exact ⟨rfl, M3.out.back (Rf c L) Y⟩
set_option maxRecDepth 100000 in
set_option maxHeartbeats 4000000 in
theorem rstep_told [hY : Fr Y] (h : Has B w wr (Star (Rf c L) Y)) (D : Ctx) (hC : CtxOk D) {i : Ins} {E : Int} (h0 : D.pc ≠ 0) (HT : toldS D L = (i, E)) (hE : E ≠ 0) : Calls Try.prog 18 #[.agg D.arr, .pointer (some ⟨c, 0, none⟩)] wr (StepE B w c (D, trapV E, L) Y) := by
  have HC := Lib.hid hC
  clear hC
  rw [show D.arr = #[.int .i64 D.pc, .int .i64 D.tp, .int .i64 (D.r 0), .int .i64 (D.r 1), .int .i64 (D.r 2), .int .i64 (D.r 3), .int .i64 (D.r 4), .int .i64 (D.r 5), .int .i64 (D.r 6), .int .i64 (D.r 7), .int .i64 (D.r 8), .int .i64 (D.r 9), .int .i64 (D.r 10), .int .i64 (D.r 11), .int .i64 (D.r 12), .int .i64 (D.r 13), .int .i64 (D.r 14), .int .i64 (D.r 15)] from rfl]
  have M0 := Lib.hid (((h.newcel 37 #[.int .i64 D.pc, .int .i64 D.tp, .int .i64 (D.r 0), .int .i64 (D.r 1), .int .i64 (D.r 2), .int .i64 (D.r 3), .int .i64 (D.r 4), .int .i64 (D.r 5), .int .i64 (D.r 6), .int .i64 (D.r 7), .int .i64 (D.r 8), .int .i64 (D.r 9), .int .i64 (D.r 10), .int .i64 (D.r 11), .int .i64 (D.r 12), .int .i64 (D.r 13), .int .i64 (D.r 14), .int .i64 (D.r 15)]).newcel 37 #[.int .i64 0, .int .i64 0, .int .i64 0, .int .i64 0, .int .i64 0, .int .i64 0, .int .i64 0, .int .i64 0, .int .i64 0, .int .i64 0, .int .i64 0, .int .i64 0, .int .i64 0, .int .i64 0, .int .i64 0, .int .i64 0, .int .i64 0, .int .i64 0]).newcel 40 #[.int .i64 0, .int .i64 0, .int .i64 0, .int .i64 0, .int .i64 0])
  go_enter Try.func18, Try.ntmps18
  go_upto_region 1 with (fail)
  have e1 : (wr.alloc (.cells #[.int .i64 D.pc, .int .i64 D.tp, .int .i64 (D.r 0), .int .i64 (D.r 1), .int .i64 (D.r 2), .int .i64 (D.r 3), .int .i64 (D.r 4), .int .i64 (D.r 5), .int .i64 (D.r 6), .int .i64 (D.r 7), .int .i64 (D.r 8), .int .i64 (D.r 9), .int .i64 (D.r 10), .int .i64 (D.r 11), .int .i64 (D.r 12), .int .i64 (D.r 13), .int .i64 (D.r 14), .int .i64 (D.r 15)] 37)).heap.size = wr.heap.size + 1 := by simp
  have e2 : ((wr.alloc (.cells #[.int .i64 D.pc, .int .i64 D.tp, .int .i64 (D.r 0), .int .i64 (D.r 1), .int .i64 (D.r 2), .int .i64 (D.r 3), .int .i64 (D.r 4), .int .i64 (D.r 5), .int .i64 (D.r 6), .int .i64 (D.r 7), .int .i64 (D.r 8), .int .i64 (D.r 9), .int .i64 (D.r 10), .int .i64 (D.r 11), .int .i64 (D.r 12), .int .i64 (D.r 13), .int .i64 (D.r 14), .int .i64 (D.r 15)] 37)).alloc (.cells #[.int .i64 0, .int .i64 0, .int .i64 0, .int .i64 0, .int .i64 0, .int .i64 0, .int .i64 0, .int .i64 0, .int .i64 0, .int .i64 0, .int .i64 0, .int .i64 0, .int .i64 0, .int .i64 0, .int .i64 0, .int .i64 0, .int .i64 0, .int .i64 0] 37)).heap.size = wr.heap.size + 1 + 1 := by simp
  rw [e2, e1] at M0
  obtain ⟨W, hW⟩ : ∃ W, (((wr.alloc (.cells #[.int .i64 D.pc, .int .i64 D.tp, .int .i64 (D.r 0), .int .i64 (D.r 1), .int .i64 (D.r 2), .int .i64 (D.r 3), .int .i64 (D.r 4), .int .i64 (D.r 5), .int .i64 (D.r 6), .int .i64 (D.r 7), .int .i64 (D.r 8), .int .i64 (D.r 9), .int .i64 (D.r 10), .int .i64 (D.r 11), .int .i64 (D.r 12), .int .i64 (D.r 13), .int .i64 (D.r 14), .int .i64 (D.r 15)] 37)).alloc (.cells #[.int .i64 0, .int .i64 0, .int .i64 0, .int .i64 0, .int .i64 0, .int .i64 0, .int .i64 0, .int .i64 0, .int .i64 0, .int .i64 0, .int .i64 0, .int .i64 0, .int .i64 0, .int .i64 0, .int .i64 0, .int .i64 0, .int .i64 0, .int .i64 0] 37)).alloc (.cells #[.int .i64 0, .int .i64 0, .int .i64 0, .int .i64 0, .int .i64 0] 40)) = W := ⟨_, rfl⟩
  rw [hW] at M0 ⊢
  clear e1 e2 hW
  generalize wr.heap.size + 1 + 1 = b2 at M0 ⊢
  generalize wr.heap.size + 1 = b1 at M0 ⊢
  generalize wr.heap.size = b0 at M0 ⊢
  have M1 : Hid (Has B w W (Star (Cel b2 40 #[.int .i64 0, .int .i64 0, .int .i64 0, .int .i64 0, .int .i64 0]) (Star (Cel b1 37 #[.int .i64 0, .int .i64 0, .int .i64 0, .int .i64 0, .int .i64 0, .int .i64 0, .int .i64 0, .int .i64 0, .int .i64 0, .int .i64 0, .int .i64 0, .int .i64 0, .int .i64 0, .int .i64 0, .int .i64 0, .int .i64 0, .int .i64 0, .int .i64 0]) (Star (Cel b0 37 D.arr) (Star (Rf c L) Y))))) := M0
  clear M0
  clear h
  have hpc : W.cell? ⟨b0, 0, none⟩ = some (.int .i64 D.pc) := M1.out.cellat b0 0 rfl
  have hz : (D.pc == 0) = false := beq_eq_false_iff_ne.2 h0
  have C1 := Lib.hid (told_own (M1.out.pick (Rf c L)) D HC.out)
  rw [HT] at C1
  have HT' := Lib.hid HT
  clear h0 HT
  go_wp2_with (first | (refine wpList_load_rowW rfl 37 _ rfl b0 rfl D.arr _ (M1.out.getc b0) Try.underlying37 rfl (by kernel_rfl) ?_))
  refine (C1.out).mono ?_
  rintro e w2 ⟨rfl, m2⟩
  clear M1 C1 hpc
  have hbe : (E != 0) = true := bne_iff_ne.2 hE
  have M2 := Lib.hid (m2.newcel 30 #[.int .i64 0, .int .i64 0, .int .i64 0, .int .i64 0, .int .i64 0])
  have M3 := Lib.hid (M2.out.rowc w2.heap.size (insA i))
  clear m2
  go_upto_region 4 with (first | (refine wpList_store_row rfl 30 _ _ rfl w2.heap.size (insA i) rfl rfl 30 #[.int .i64 0, .int .i64 0, .int .i64 0, .int .i64 0, .int .i64 0] (M2.out.getc w2.heap.size) (by kernel_rfl) rfl (by kernel_rfl) ?_))
  obtain ⟨WN, hW⟩ : ∃ WN, (w2.alloc (.cells #[.int .i64 0, .int .i64 0, .int .i64 0, .int .i64 0, .int .i64 0] 30)).setRow w2.heap.size (insA i) = WN := ⟨_, rfl⟩
  rw [hW] at M3 ⊢
  clear hW M2
  generalize w2.heap.size = b6 at M3 ⊢
  have CT := Lib.hid (trapped_any D E WN)
  go_wp2_with (first | (refine wpList_load_rowW rfl 37 _ rfl b0 rfl D.arr _ (M3.out.getc b0) Try.underlying37 rfl (by kernel_rfl) ?_))
  refine (CT.out).mono ?_
  rintro e w8 ⟨rfl, hb8⟩
  have M8 := Lib.hid (M3.out.stay hb8)
  clear CT M3 hb8
  have M9 := Lib.hid (M8.out.rowc b1 D.arr)
  have MX := Lib.hid (M9.out.rowc b2 (trapV E).arr)
  go_wp2_with (first | (refine wpList_store_row rfl 37 _ _ rfl b1 D.arr rfl rfl 37 #[.int .i64 0, .int .i64 0, .int .i64 0, .int .i64 0, .int .i64 0, .int .i64 0, .int .i64 0, .int .i64 0, .int .i64 0, .int .i64 0, .int .i64 0, .int .i64 0, .int .i64 0, .int .i64 0, .int .i64 0, .int .i64 0, .int .i64 0, .int .i64 0] (M8.out.getc b1) (by kernel_rfl) rfl (by kernel_rfl) ?_) | (refine wpList_store_row rfl 40 _ _ rfl b2 (trapV E).arr rfl rfl 40 #[.int .i64 0, .int .i64 0, .int .i64 0, .int .i64 0, .int .i64 0] (M9.out.getc b2) (by kernel_rfl) rfl (by kernel_rfl) ?_))
  try simp only [Exit.inBlock, Exit.then]
  refine bodyPost_ret (results_cell2_row (p := 4) (u := 5) (ty := 37) (uy := 40) rfl _ _ b1 b2 37 40 D.arr (trapV E).arr _ _ (by kernel_rfl) (MX.out.getc b1) Try.underlying37 rfl (by kernel_rfl) (by kernel_rfl) (MX.out.getc b2) Try.underlying40 rfl (by kernel_rfl)) rfl ?_
  exact ⟨rfl, MX.out.back (Rf c L) Y⟩
set_option maxRecDepth 100000 in
set_option maxHeartbeats 4000000 in
theorem rstep_jump [hY : Fr Y] (h : Has B w wr (Star (Rf c L) Y)) (D : Ctx) (hC : CtxOk D) (C : Ctx) (hCD : { D with pc := wrap64 (D.pc + 8) } = C) {i : Ins} (h0 : D.pc ≠ 0) (HT : toldS D L = (i, 0)) (C5 : Ctx) (E5 : Evt) (L5 : List Rg) (HJ : ∀ (w1 : World) (Y2 : Res) (hY2 : Fr Y2), Has B w w1 (Star (Rf c L) Y2) → Calls Try.prog 36 #[.agg (Ctx.arr C), .agg D.arr, .pointer (some ⟨c, 0, none⟩), .agg (insA i)] w1 (JumpE B w c (C5, E5, true, L5) Y2)) : Calls Try.prog 18 #[.agg D.arr, .pointer (some ⟨c, 0, none⟩)] wr (StepE B w c (C5, E5, L5) Y) := by
  have HC := Lib.hid hC
  clear hC
  have HCQ := Lib.hid hCD
  clear hCD
  rw [show D.arr = #[.int .i64 D.pc, .int .i64 D.tp, .int .i64 (D.r 0), .int .i64 (D.r 1), .int .i64 (D.r 2), .int .i64 (D.r 3), .int .i64 (D.r 4), .int .i64 (D.r 5), .int .i64 (D.r 6), .int .i64 (D.r 7), .int .i64 (D.r 8), .int .i64 (D.r 9), .int .i64 (D.r 10), .int .i64 (D.r 11), .int .i64 (D.r 12), .int .i64 (D.r 13), .int .i64 (D.r 14), .int .i64 (D.r 15)] from rfl]
  have M0 := Lib.hid (((h.newcel 37 #[.int .i64 D.pc, .int .i64 D.tp, .int .i64 (D.r 0), .int .i64 (D.r 1), .int .i64 (D.r 2), .int .i64 (D.r 3), .int .i64 (D.r 4), .int .i64 (D.r 5), .int .i64 (D.r 6), .int .i64 (D.r 7), .int .i64 (D.r 8), .int .i64 (D.r 9), .int .i64 (D.r 10), .int .i64 (D.r 11), .int .i64 (D.r 12), .int .i64 (D.r 13), .int .i64 (D.r 14), .int .i64 (D.r 15)]).newcel 37 #[.int .i64 0, .int .i64 0, .int .i64 0, .int .i64 0, .int .i64 0, .int .i64 0, .int .i64 0, .int .i64 0, .int .i64 0, .int .i64 0, .int .i64 0, .int .i64 0, .int .i64 0, .int .i64 0, .int .i64 0, .int .i64 0, .int .i64 0, .int .i64 0]).newcel 40 #[.int .i64 0, .int .i64 0, .int .i64 0, .int .i64 0, .int .i64 0])
  go_enter Try.func18, Try.ntmps18
  go_upto_region 1 with (fail)
  have e1 : (wr.alloc (.cells #[.int .i64 D.pc, .int .i64 D.tp, .int .i64 (D.r 0), .int .i64 (D.r 1), .int .i64 (D.r 2), .int .i64 (D.r 3), .int .i64 (D.r 4), .int .i64 (D.r 5), .int .i64 (D.r 6), .int .i64 (D.r 7), .int .i64 (D.r 8), .int .i64 (D.r 9), .int .i64 (D.r 10), .int .i64 (D.r 11), .int .i64 (D.r 12), .int .i64 (D.r 13), .int .i64 (D.r 14), .int .i64 (D.r 15)] 37)).heap.size = wr.heap.size + 1 := by simp
  have e2 : ((wr.alloc (.cells #[.int .i64 D.pc, .int .i64 D.tp, .int .i64 (D.r 0), .int .i64 (D.r 1), .int .i64 (D.r 2), .int .i64 (D.r 3), .int .i64 (D.r 4), .int .i64 (D.r 5), .int .i64 (D.r 6), .int .i64 (D.r 7), .int .i64 (D.r 8), .int .i64 (D.r 9), .int .i64 (D.r 10), .int .i64 (D.r 11), .int .i64 (D.r 12), .int .i64 (D.r 13), .int .i64 (D.r 14), .int .i64 (D.r 15)] 37)).alloc (.cells #[.int .i64 0, .int .i64 0, .int .i64 0, .int .i64 0, .int .i64 0, .int .i64 0, .int .i64 0, .int .i64 0, .int .i64 0, .int .i64 0, .int .i64 0, .int .i64 0, .int .i64 0, .int .i64 0, .int .i64 0, .int .i64 0, .int .i64 0, .int .i64 0] 37)).heap.size = wr.heap.size + 1 + 1 := by simp
  rw [e2, e1] at M0
  obtain ⟨W, hW⟩ : ∃ W, (((wr.alloc (.cells #[.int .i64 D.pc, .int .i64 D.tp, .int .i64 (D.r 0), .int .i64 (D.r 1), .int .i64 (D.r 2), .int .i64 (D.r 3), .int .i64 (D.r 4), .int .i64 (D.r 5), .int .i64 (D.r 6), .int .i64 (D.r 7), .int .i64 (D.r 8), .int .i64 (D.r 9), .int .i64 (D.r 10), .int .i64 (D.r 11), .int .i64 (D.r 12), .int .i64 (D.r 13), .int .i64 (D.r 14), .int .i64 (D.r 15)] 37)).alloc (.cells #[.int .i64 0, .int .i64 0, .int .i64 0, .int .i64 0, .int .i64 0, .int .i64 0, .int .i64 0, .int .i64 0, .int .i64 0, .int .i64 0, .int .i64 0, .int .i64 0, .int .i64 0, .int .i64 0, .int .i64 0, .int .i64 0, .int .i64 0, .int .i64 0] 37)).alloc (.cells #[.int .i64 0, .int .i64 0, .int .i64 0, .int .i64 0, .int .i64 0] 40)) = W := ⟨_, rfl⟩
  rw [hW] at M0 ⊢
  clear e1 e2 hW
  generalize wr.heap.size + 1 + 1 = b2 at M0 ⊢
  generalize wr.heap.size + 1 = b1 at M0 ⊢
  generalize wr.heap.size = b0 at M0 ⊢
  have M1 : Hid (Has B w W (Star (Cel b2 40 #[.int .i64 0, .int .i64 0, .int .i64 0, .int .i64 0, .int .i64 0]) (Star (Cel b1 37 #[.int .i64 0, .int .i64 0, .int .i64 0, .int .i64 0, .int .i64 0, .int .i64 0, .int .i64 0, .int .i64 0, .int .i64 0, .int .i64 0, .int .i64 0, .int .i64 0, .int .i64 0, .int .i64 0, .int .i64 0, .int .i64 0, .int .i64 0, .int .i64 0]) (Star (Cel b0 37 D.arr) (Star (Rf c L) Y))))) := M0
  clear M0
  clear h
  have hpc : W.cell? ⟨b0, 0, none⟩ = some (.int .i64 D.pc) := M1.out.cellat b0 0 rfl
  have hz : (D.pc == 0) = false := beq_eq_false_iff_ne.2 h0
  have C1 := Lib.hid (told_own (M1.out.pick (Rf c L)) D HC.out)
  rw [HT] at C1
  have HT' := Lib.hid HT
  clear h0 HT
  go_wp2_with (first | (refine wpList_load_rowW rfl 37 _ rfl b0 rfl D.arr _ (M1.out.getc b0) Try.underlying37 rfl (by kernel_rfl) ?_))
  refine (C1.out).mono ?_
  rintro e w2 ⟨rfl, m2⟩
  clear M1 C1 hpc
  have M2 := Lib.hid (m2.newcel 30 #[.int .i64 0, .int .i64 0, .int .i64 0, .int .i64 0, .int .i64 0])
  have M3 := Lib.hid (M2.out.rowc w2.heap.size (insA i))
  clear m2
  go_upto_region 4 with (first | (refine wpList_store_row rfl 30 _ _ rfl w2.heap.size (insA i) rfl rfl 30 #[.int .i64 0, .int .i64 0, .int .i64 0, .int .i64 0, .int .i64 0] (M2.out.getc w2.heap.size) (by kernel_rfl) rfl (by kernel_rfl) ?_))
  obtain ⟨W3, hW⟩ : ∃ W3, (w2.alloc (.cells #[.int .i64 0, .int .i64 0, .int .i64 0, .int .i64 0, .int .i64 0] 30)).setRow w2.heap.size (insA i) = W3 := ⟨_, rfl⟩
  have M4 := M3
  rw [hW] at M4 ⊢
  clear hW M2 M3
  generalize w2.heap.size = b6 at M4 ⊢
  have M5 := Lib.hid (M4.out.newcel 37 #[.int .i64 0, .int .i64 0, .int .i64 0, .int .i64 0, .int .i64 0, .int .i64 0, .int .i64 0, .int .i64 0, .int .i64 0, .int .i64 0, .int .i64 0, .int .i64 0, .int .i64 0, .int .i64 0, .int .i64 0, .int .i64 0, .int .i64 0, .int .i64 0])
  have M6 := Lib.hid (M5.out.rowc W3.heap.size D.arr)
  go_upto_region 7 with (first | (refine wpList_load_rowW rfl 37 _ rfl b0 rfl D.arr _ (M4.out.getc b0) Try.underlying37 rfl (by kernel_rfl) ?_) | (refine wpList_store_row rfl 37 _ _ rfl W3.heap.size D.arr rfl rfl 37 #[.int .i64 0, .int .i64 0, .int .i64 0, .int .i64 0, .int .i64 0, .int .i64 0, .int .i64 0, .int .i64 0, .int .i64 0, .int .i64 0, .int .i64 0, .int .i64 0, .int .i64 0, .int .i64 0, .int .i64 0, .int .i64 0, .int .i64 0, .int .i64 0] (M5.out.getc W3.heap.size) (by kernel_rfl) rfl (by kernel_rfl) ?_))
  obtain ⟨W4, hW⟩ : ∃ W4, (W3.alloc (.cells #[.int .i64 0, .int .i64 0, .int .i64 0, .int .i64 0, .int .i64 0, .int .i64 0, .int .i64 0, .int .i64 0, .int .i64 0, .int .i64 0, .int .i64 0, .int .i64 0, .int .i64 0, .int .i64 0, .int .i64 0, .int .i64 0, .int .i64 0, .int .i64 0] 37)).setRow W3.heap.size D.arr = W4 := ⟨_, rfl⟩
  have M7 := M6
  rw [hW] at M7 ⊢
  clear hW M4 M5 M6
  generalize W3.heap.size = b8 at M7 ⊢
  have hpc : W4.cell? ⟨b0, 0, none⟩ = some (.int .i64 D.pc) := M7.out.cellat b0 0 rfl
  have ol : W4.cell? ⟨b8, 0, none⟩ = some (.int .i64 D.pc) := M7.out.cellat b8 0 rfl
  have lv : W4.frozen? ⟨b8, 0, none⟩ = false := M7.out.liveat b8 0
  have M8 := Lib.hid (M7.out.cellc b8 0 (.int .i64 (wrap64 (D.pc + 8))) (Ctx.arr { D with pc := wrap64 (D.pc + 8) }) rfl)
  go_upto_region 8 with (fail)
  obtain ⟨W5, hW⟩ : ∃ W5, W4.setCell ⟨b8, 0, none⟩ (.int .i64 (wrap64 (D.pc + 8))) = W5 := ⟨_, rfl⟩
  have M9 := M8
  rw [hW] at M9 ⊢
  clear hW M7 M8 hpc ol lv
  rw [HCQ.out] at M9
  have C2 := Lib.hid (HJ W5 _ inferInstance (M9.out.pick (Rf c L)))
  clear HJ
  go_wp2_with (first | (refine wpList_load_rowW rfl 37 _ rfl b8 rfl C.arr _ (M9.out.getc b8) Try.underlying37 rfl (by kernel_rfl) ?_) | (refine wpList_load_rowW rfl 37 _ rfl b0 rfl D.arr _ (M9.out.getc b0) Try.underlying37 rfl (by kernel_rfl) ?_) | (refine wpList_load_rowW rfl 30 _ rfl b6 rfl (insA i) _ (M9.out.getc b6) Try.underlying30 rfl (by kernel_rfl) ?_))
  refine (C2.out).mono ?_
  rintro e w3 ⟨rfl, m⟩
  clear M9 C2
  have es : (w3.alloc (.cells #[.int .i64 0, .int .i64 0, .int .i64 0, .int .i64 0, .int .i64 0, .int .i64 0, .int .i64 0, .int .i64 0, .int .i64 0, .int .i64 0, .int .i64 0, .int .i64 0, .int .i64 0, .int .i64 0, .int .i64 0, .int .i64 0, .int .i64 0, .int .i64 0] 37)).heap.size = w3.heap.size + 1 := by simp
  have Na := Lib.hid ((m.newcel 37 #[.int .i64 0, .int .i64 0, .int .i64 0, .int .i64 0, .int .i64 0, .int .i64 0, .int .i64 0, .int .i64 0, .int .i64 0, .int .i64 0, .int .i64 0, .int .i64 0, .int .i64 0, .int .i64 0, .int .i64 0, .int .i64 0, .int .i64 0, .int .i64 0]).newcel 40 #[.int .i64 0, .int .i64 0, .int .i64 0, .int .i64 0, .int .i64 0])
  rw [es] at Na
  have Nb := Lib.hid (Na.out.rowc w3.heap.size C5.arr)
  have Nc := Lib.hid (Nb.out.rowc (w3.heap.size + 1) E5.arr)
  go_upto_region 9 with (first | (refine wpList_store_row rfl 37 _ _ rfl w3.heap.size C5.arr rfl rfl 37 #[.int .i64 0, .int .i64 0, .int .i64 0, .int .i64 0, .int .i64 0, .int .i64 0, .int .i64 0, .int .i64 0, .int .i64 0, .int .i64 0, .int .i64 0, .int .i64 0, .int .i64 0, .int .i64 0, .int .i64 0, .int .i64 0, .int .i64 0, .int .i64 0] (Na.out.getc w3.heap.size) (by kernel_rfl) rfl (by kernel_rfl) ?_) | (refine wpList_store_row rfl 40 _ _ rfl (w3.heap.size + 1) E5.arr rfl rfl 40 #[.int .i64 0, .int .i64 0, .int .i64 0, .int .i64 0, .int .i64 0] (Nb.out.getc (w3.heap.size + 1)) (by kernel_rfl) rfl (by kernel_rfl) ?_))
  obtain ⟨W6, hW⟩ : ∃ W6, (((w3.alloc (.cells #[.int .i64 0, .int .i64 0, .int .i64 0, .int .i64 0, .int .i64 0, .int .i64 0, .int .i64 0, .int .i64 0, .int .i64 0, .int .i64 0, .int .i64 0, .int .i64 0, .int .i64 0, .int .i64 0, .int .i64 0, .int .i64 0, .int .i64 0, .int .i64 0] 37)).alloc (.cells #[.int .i64 0, .int .i64 0, .int .i64 0, .int .i64 0, .int .i64 0] 40)).setRow w3.heap.size C5.arr).setRow (w3.heap.size + 1) E5.arr = W6 := ⟨_, rfl⟩
  have N1 := Nc
  rw [hW] at N1 ⊢
  clear hW es Na Nb Nc m
  generalize w3.heap.size + 1 = b10 at N1 ⊢
  generalize w3.heap.size = b9 at N1 ⊢
  go_wp2_with fail
  have N0 := Lib.hid (N1.out.stay below_drw)
  have HS0 : (fun X => Blk X b9 37 C5.arr ∧ Blk X b10 40 E5.arr) W6.drew := ⟨N0.out.getc b9, N0.out.getc b10⟩
  refine wp_region_noPanic ?_
  refine wp_region_held_drew (S := fun X => Blk X b9 37 C5.arr ∧ Blk X b10 40 E5.arr) (by kernel_rfl) HS0 ?_
  clear HS0
  intro hS
  refine wpAnyH_take (i := 0) rfl (by kernel_rfl) (by kernel_rfl) (by kernel_rfl) (fun _ _ _ h => h) (yields_load_row rfl 37 _ rfl b9 (by kernel_rfl) 37 C5.arr _ (fun w h => h.1) Try.underlying37 rfl (by kernel_rfl)) hS ?_
  refine wpAnyH_take (i := 1) rfl (by kernel_rfl) (by kernel_rfl) (by kernel_rfl) (fun _ _ _ h => h) (yields_load_row rfl 40 _ rfl b10 (by kernel_rfl) 40 E5.arr _ (fun w h => h.2) Try.underlying40 rfl (by kernel_rfl)) hS ?_
  refine wpAnyH_all (rs := [2]) (by kernel_rfl) (by simp) ?_
  intro i hi
  obtain rfl : i = 2 := by simpa using hi
  have N0s1 := Lib.hid (N0.out.rowc b1 C5.arr)
  refine wpOp_store_row rfl rfl 37 _ _ rfl b1 C5.arr (by kernel_rfl) (by kernel_rfl) 37 #[.int .i64 0, .int .i64 0, .int .i64 0, .int .i64 0, .int .i64 0, .int .i64 0, .int .i64 0, .int .i64 0, .int .i64 0, .int .i64 0, .int .i64 0, .int .i64 0, .int .i64 0, .int .i64 0, .int .i64 0, .int .i64 0, .int .i64 0, .int .i64 0] (N0.out.getc b1) (by kernel_rfl) rfl (by kernel_rfl) ?_
  have hS1 : (fun X => Blk X b9 37 C5.arr ∧ Blk X b10 40 E5.arr) _ := ⟨N0s1.out.getc b9, N0s1.out.getc b10⟩
  refine ⟨hS1, ?_⟩
  refine wpAnyH_all (rs := [3]) (by kernel_rfl) (by simp) ?_
  intro i hi
  obtain rfl : i = 3 := by simpa using hi
  have N0s2 := Lib.hid (N0s1.out.rowc b2 E5.arr)
  refine wpOp_store_row rfl rfl 40 _ _ rfl b2 E5.arr (by kernel_rfl) (by kernel_rfl) 40 #[.int .i64 0, .int .i64 0, .int .i64 0, .int .i64 0, .int .i64 0] (N0s1.out.getc b2) (by kernel_rfl) rfl (by kernel_rfl) ?_
  have hS2 : (fun X => Blk X b9 37 C5.arr ∧ Blk X b10 40 E5.arr) _ := ⟨N0s2.out.getc b9, N0s2.out.getc b10⟩
  refine ⟨hS2, ?_⟩
  refine wpAnyH_done (by kernel_rfl) ?_ _
  refine NoPanic.normal ?_
  go_wp2
  try simp only [Exit.inBlock, Exit.then]
  refine bodyPost_ret (results_cell2_row (p := 4) (u := 5) (ty := 37) (uy := 40) rfl _ _ b1 b2 37 40 C5.arr E5.arr _ _ (by kernel_rfl) (N0s2.out.getc b1) Try.underlying37 rfl (by kernel_rfl) (by kernel_rfl) (N0s2.out.getc b2) Try.underlying40 rfl (by kernel_rfl)) rfl ?_
  exact ⟨rfl, N0s2.out.back (Rf c L5) Y⟩
end
end Go.Proofs.Ytkpaeogjefjbfaa
