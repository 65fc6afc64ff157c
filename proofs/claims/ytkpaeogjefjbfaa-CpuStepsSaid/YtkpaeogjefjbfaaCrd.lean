/-
  Layer 6: the document's step: the instructions that lead elsewhere.
  Conditions: none. (My own text.)
-/
import Derived.Test.YtkpaeogjefjbfaaCry
namespace Go.Proofs.Ytkpaeogjefjbfaa
open Go.RowKit Spm
set_option linter.unusedVariables false
set_option linter.unusedSimpArgs false

section
variable {B : Nat} {w wr w' : World} {c : Nat} {L : List Rg} {Y : Res}
set_option maxRecDepth 100000 in
set_option maxHeartbeats 4000000 in
theorem jumped_13 [hY : Fr Y] (h : Has B w wr (Star (Rf c L) Y)) (C D : Ctx) (hC : CtxOk C) {a b cc : Nat} (ha : a < 16) (n : Int) : Calls Try.prog 36 #[.agg C.arr, .agg D.arr, .pointer (some ⟨c, 0, none⟩), .agg (insA ⟨13, a, b, cc, n⟩)] wr (JumpE B w c (jumpedS C D L ⟨13, a, b, cc, n⟩) Y) := by
  obtain ⟨R, hR⟩ : ∃ R, jumpedS C D L ⟨13, a, b, cc, n⟩ = R := ⟨_, rfl⟩
  rw [hR]
  have HR := Lib.hid hR
  have HC := Lib.hid hC
  clear hR hC
  unfold Ctx.arr insA
  have M0 := Lib.hid (((((h.newcel 37 #[.int .i64 C.pc, .int .i64 C.tp, .int .i64 (C.r 0), .int .i64 (C.r 1), .int .i64 (C.r 2), .int .i64 (C.r 3), .int .i64 (C.r 4), .int .i64 (C.r 5), .int .i64 (C.r 6), .int .i64 (C.r 7), .int .i64 (C.r 8), .int .i64 (C.r 9), .int .i64 (C.r 10), .int .i64 (C.r 11), .int .i64 (C.r 12), .int .i64 (C.r 13), .int .i64 (C.r 14), .int .i64 (C.r 15)]).newcel 37 #[.int .i64 D.pc, .int .i64 D.tp, .int .i64 (D.r 0), .int .i64 (D.r 1), .int .i64 (D.r 2), .int .i64 (D.r 3), .int .i64 (D.r 4), .int .i64 (D.r 5), .int .i64 (D.r 6), .int .i64 (D.r 7), .int .i64 (D.r 8), .int .i64 (D.r 9), .int .i64 (D.r 10), .int .i64 (D.r 11), .int .i64 (D.r 12), .int .i64 (D.r 13), .int .i64 (D.r 14), .int .i64 (D.r 15)]).newcel 30 #[.int .i64 13, .int .i64 a, .int .i64 b, .int .i64 cc, .int .i64 n]).newcel 37 #[.int .i64 0, .int .i64 0, .int .i64 0, .int .i64 0, .int .i64 0, .int .i64 0, .int .i64 0, .int .i64 0, .int .i64 0, .int .i64 0, .int .i64 0, .int .i64 0, .int .i64 0, .int .i64 0, .int .i64 0, .int .i64 0, .int .i64 0, .int .i64 0]).newcel 40 #[.int .i64 0, .int .i64 0, .int .i64 0, .int .i64 0, .int .i64 0])
  go_enter Try.func36, Try.ntmps36
  go_upto_region 1 with (fail)
  have e1 : (wr.alloc (.cells #[.int .i64 C.pc, .int .i64 C.tp, .int .i64 (C.r 0), .int .i64 (C.r 1), .int .i64 (C.r 2), .int .i64 (C.r 3), .int .i64 (C.r 4), .int .i64 (C.r 5), .int .i64 (C.r 6), .int .i64 (C.r 7), .int .i64 (C.r 8), .int .i64 (C.r 9), .int .i64 (C.r 10), .int .i64 (C.r 11), .int .i64 (C.r 12), .int .i64 (C.r 13), .int .i64 (C.r 14), .int .i64 (C.r 15)] 37)).heap.size = wr.heap.size + 1 := by simp
  have e2 : ((wr.alloc (.cells #[.int .i64 C.pc, .int .i64 C.tp, .int .i64 (C.r 0), .int .i64 (C.r 1), .int .i64 (C.r 2), .int .i64 (C.r 3), .int .i64 (C.r 4), .int .i64 (C.r 5), .int .i64 (C.r 6), .int .i64 (C.r 7), .int .i64 (C.r 8), .int .i64 (C.r 9), .int .i64 (C.r 10), .int .i64 (C.r 11), .int .i64 (C.r 12), .int .i64 (C.r 13), .int .i64 (C.r 14), .int .i64 (C.r 15)] 37)).alloc (.cells #[.int .i64 D.pc, .int .i64 D.tp, .int .i64 (D.r 0), .int .i64 (D.r 1), .int .i64 (D.r 2), .int .i64 (D.r 3), .int .i64 (D.r 4), .int .i64 (D.r 5), .int .i64 (D.r 6), .int .i64 (D.r 7), .int .i64 (D.r 8), .int .i64 (D.r 9), .int .i64 (D.r 10), .int .i64 (D.r 11), .int .i64 (D.r 12), .int .i64 (D.r 13), .int .i64 (D.r 14), .int .i64 (D.r 15)] 37)).heap.size = wr.heap.size + 1 + 1 := by simp
  have e3 : (((wr.alloc (.cells #[.int .i64 C.pc, .int .i64 C.tp, .int .i64 (C.r 0), .int .i64 (C.r 1), .int .i64 (C.r 2), .int .i64 (C.r 3), .int .i64 (C.r 4), .int .i64 (C.r 5), .int .i64 (C.r 6), .int .i64 (C.r 7), .int .i64 (C.r 8), .int .i64 (C.r 9), .int .i64 (C.r 10), .int .i64 (C.r 11), .int .i64 (C.r 12), .int .i64 (C.r 13), .int .i64 (C.r 14), .int .i64 (C.r 15)] 37)).alloc (.cells #[.int .i64 D.pc, .int .i64 D.tp, .int .i64 (D.r 0), .int .i64 (D.r 1), .int .i64 (D.r 2), .int .i64 (D.r 3), .int .i64 (D.r 4), .int .i64 (D.r 5), .int .i64 (D.r 6), .int .i64 (D.r 7), .int .i64 (D.r 8), .int .i64 (D.r 9), .int .i64 (D.r 10), .int .i64 (D.r 11), .int .i64 (D.r 12), .int .i64 (D.r 13), .int .i64 (D.r 14), .int .i64 (D.r 15)] 37)).alloc (.cells #[.int .i64 13, .int .i64 a, .int .i64 b, .int .i64 cc, .int .i64 n] 30)).heap.size = wr.heap.size + 1 + 1 + 1 := by simp
  have e4 : ((((wr.alloc (.cells #[.int .i64 C.pc, .int .i64 C.tp, .int .i64 (C.r 0), .int .i64 (C.r 1), .int .i64 (C.r 2), .int .i64 (C.r 3), .int .i64 (C.r 4), .int .i64 (C.r 5), .int .i64 (C.r 6), .int .i64 (C.r 7), .int .i64 (C.r 8), .int .i64 (C.r 9), .int .i64 (C.r 10), .int .i64 (C.r 11), .int .i64 (C.r 12), .int .i64 (C.r 13), .int .i64 (C.r 14), .int .i64 (C.r 15)] 37)).alloc (.cells #[.int .i64 D.pc, .int .i64 D.tp, .int .i64 (D.r 0), .int .i64 (D.r 1), .int .i64 (D.r 2), .int .i64 (D.r 3), .int .i64 (D.r 4), .int .i64 (D.r 5), .int .i64 (D.r 6), .int .i64 (D.r 7), .int .i64 (D.r 8), .int .i64 (D.r 9), .int .i64 (D.r 10), .int .i64 (D.r 11), .int .i64 (D.r 12), .int .i64 (D.r 13), .int .i64 (D.r 14), .int .i64 (D.r 15)] 37)).alloc (.cells #[.int .i64 13, .int .i64 a, .int .i64 b, .int .i64 cc, .int .i64 n] 30)).alloc (.cells #[.int .i64 0, .int .i64 0, .int .i64 0, .int .i64 0, .int .i64 0, .int .i64 0, .int .i64 0, .int .i64 0, .int .i64 0, .int .i64 0, .int .i64 0, .int .i64 0, .int .i64 0, .int .i64 0, .int .i64 0, .int .i64 0, .int .i64 0, .int .i64 0] 37)).heap.size = wr.heap.size + 1 + 1 + 1 + 1 := by simp
  rw [e4, e3, e2, e1] at M0
  obtain ⟨W, hW⟩ : ∃ W, (((((wr.alloc (.cells #[.int .i64 C.pc, .int .i64 C.tp, .int .i64 (C.r 0), .int .i64 (C.r 1), .int .i64 (C.r 2), .int .i64 (C.r 3), .int .i64 (C.r 4), .int .i64 (C.r 5), .int .i64 (C.r 6), .int .i64 (C.r 7), .int .i64 (C.r 8), .int .i64 (C.r 9), .int .i64 (C.r 10), .int .i64 (C.r 11), .int .i64 (C.r 12), .int .i64 (C.r 13), .int .i64 (C.r 14), .int .i64 (C.r 15)] 37)).alloc (.cells #[.int .i64 D.pc, .int .i64 D.tp, .int .i64 (D.r 0), .int .i64 (D.r 1), .int .i64 (D.r 2), .int .i64 (D.r 3), .int .i64 (D.r 4), .int .i64 (D.r 5), .int .i64 (D.r 6), .int .i64 (D.r 7), .int .i64 (D.r 8), .int .i64 (D.r 9), .int .i64 (D.r 10), .int .i64 (D.r 11), .int .i64 (D.r 12), .int .i64 (D.r 13), .int .i64 (D.r 14), .int .i64 (D.r 15)] 37)).alloc (.cells #[.int .i64 13, .int .i64 a, .int .i64 b, .int .i64 cc, .int .i64 n] 30)).alloc (.cells #[.int .i64 0, .int .i64 0, .int .i64 0, .int .i64 0, .int .i64 0, .int .i64 0, .int .i64 0, .int .i64 0, .int .i64 0, .int .i64 0, .int .i64 0, .int .i64 0, .int .i64 0, .int .i64 0, .int .i64 0, .int .i64 0, .int .i64 0, .int .i64 0] 37)).alloc (.cells #[.int .i64 0, .int .i64 0, .int .i64 0, .int .i64 0, .int .i64 0] 40)) = W := ⟨_, rfl⟩
  rw [hW] at M0 ⊢
  clear e1 e2 e3 e4 hW
  generalize wr.heap.size + 1 + 1 + 1 + 1 = b4 at M0 ⊢
  generalize wr.heap.size + 1 + 1 + 1 = b3 at M0 ⊢
  generalize wr.heap.size + 1 + 1 = b2 at M0 ⊢
  generalize wr.heap.size + 1 = b1 at M0 ⊢
  generalize wr.heap.size = b0 at M0 ⊢
  have M1 : Hid (Has B w W (Star (Cel b4 40 #[.int .i64 0, .int .i64 0, .int .i64 0, .int .i64 0, .int .i64 0]) (Star (Cel b3 37 #[.int .i64 0, .int .i64 0, .int .i64 0, .int .i64 0, .int .i64 0, .int .i64 0, .int .i64 0, .int .i64 0, .int .i64 0, .int .i64 0, .int .i64 0, .int .i64 0, .int .i64 0, .int .i64 0, .int .i64 0, .int .i64 0, .int .i64 0, .int .i64 0]) (Star (Cel b2 30 (insA ⟨13, a, b, cc, n⟩)) (Star (Cel b1 37 D.arr) (Star (Cel b0 37 C.arr) (Star (Rf c L) Y))))))) := M0
  clear M0
  clear h
  have M1a := Lib.hid (M1.out.newcel 40 #[.int .i64 0, .int .i64 0, .int .i64 0, .int .i64 0, .int .i64 0])
  have M1b := Lib.hid (M1a.out.rowc W.heap.size #[.int .i64 0, .int .i64 0, .int .i64 0, .int .i64 0, .int .i64 0])
  go_upto_region 2 with (first | (refine wpList_store_row rfl 40 _ _ rfl W.heap.size #[.int .i64 0, .int .i64 0, .int .i64 0, .int .i64 0, .int .i64 0] rfl rfl 40 #[.int .i64 0, .int .i64 0, .int .i64 0, .int .i64 0, .int .i64 0] (M1a.out.getc W.heap.size) (by kernel_rfl) rfl (by kernel_rfl) ?_))
  obtain ⟨W1, hW1⟩ : ∃ W1, (W.alloc (.cells #[.int .i64 0, .int .i64 0, .int .i64 0, .int .i64 0, .int .i64 0] 40)).setRow W.heap.size #[.int .i64 0, .int .i64 0, .int .i64 0, .int .i64 0, .int .i64 0] = W1 := ⟨_, rfl⟩
  have M2 := M1b
  rw [hW1] at M2 ⊢
  clear hW1 M1a M1b M1
  generalize W.heap.size = b5 at M2 ⊢
  have i0 : W1.cell? ⟨b2, 0, none⟩ = some (.int .i64 (13)) := M2.out.cellat b2 0 rfl
  have i1 : W1.cell? ⟨b2, 1, none⟩ = some (.int .i64 a) := M2.out.cellat b2 1 rfl
  have i4 : W1.cell? ⟨b2, 4, none⟩ = some (.int .i64 n) := M2.out.cellat b2 4 rfl
  have ol : W1.cell? ⟨b0, 0, none⟩ = some (.int .i64 C.pc) := M2.out.cellat b0 0 rfl
  have lv : W1.frozen? ⟨b0, 0, none⟩ = false := M2.out.liveat b0 0
  have ra : W1.cell? ⟨b0, 2 + a, none⟩ = some (.int .i64 (C.r a)) := M2.out.cellat b0 (2 + a) (ctx_reg _ ha)
  have na0 : (0 : Int) ≤ (a : Int) := by omega
  have na1 : (a : Int) < 16 := by omega
  have HE : Hid (R = ({ C with pc := wrap64 (C.pc + n) }, ev0, true, L)) := Lib.hid (by rw [← HR.out]; rfl)
  clear HR HC
  have M3a := Lib.hid (M2.out.cellc b0 0 (.int .i64 (wrap64 (C.pc + n))) (Ctx.arr { C with pc := wrap64 (C.pc + n) }) rfl)
  obtain ⟨C2, hC2⟩ : ∃ C2 : Ctx, { C with pc := wrap64 (C.pc + n) } = C2 := ⟨_, rfl⟩
  rw [hC2] at M3a HE
  clear hC2
  go_wp2_with fail
  obtain ⟨W2, hW2⟩ : ∃ W2, W1.setCell ⟨b0, 0, none⟩ (.int .i64 (wrap64 (C.pc + n))) = W2 := ⟨_, rfl⟩
  have M3 := M3a
  rw [hW2] at M3 ⊢
  clear hW2 M3a
  have N0 := Lib.hid (M3.out.stay below_drw)
  have HS0 : (fun X => Blk X b0 37 C2.arr ∧ Blk X b5 40 #[.int .i64 0, .int .i64 0, .int .i64 0, .int .i64 0, .int .i64 0]) W2.drew := ⟨N0.out.getc b0, N0.out.getc b5⟩
  refine wp_region_noPanic ?_
  refine wp_region_held_drew (S := fun X => Blk X b0 37 C2.arr ∧ Blk X b5 40 #[.int .i64 0, .int .i64 0, .int .i64 0, .int .i64 0, .int .i64 0]) (by kernel_rfl) HS0 ?_
  clear HS0
  intro hS
  refine wpAnyH_take (i := 0) rfl (by kernel_rfl) (by kernel_rfl) (by kernel_rfl) (fun _ _ _ h => h) (yields_load_row rfl 37 _ rfl b0 (by kernel_rfl) 37 C2.arr _ (fun w h => h.1) Try.underlying37 rfl (by kernel_rfl)) hS ?_
  refine wpAnyH_take (i := 1) rfl (by kernel_rfl) (by kernel_rfl) (by kernel_rfl) (fun _ _ _ h => h) (yields_load_row rfl 40 _ rfl b5 (by kernel_rfl) 40 #[.int .i64 0, .int .i64 0, .int .i64 0, .int .i64 0, .int .i64 0] _ (fun w h => h.2) Try.underlying40 rfl (by kernel_rfl)) hS ?_
  refine wpAnyH_all (rs := [2]) (by kernel_rfl) (by simp) ?_
  intro i hi
  obtain rfl : i = 2 := by simpa using hi
  have N0s1 := Lib.hid (N0.out.rowc b3 C2.arr)
  refine wpOp_store_row rfl rfl 37 _ _ rfl b3 C2.arr (by kernel_rfl) (by kernel_rfl) 37 #[.int .i64 0, .int .i64 0, .int .i64 0, .int .i64 0, .int .i64 0, .int .i64 0, .int .i64 0, .int .i64 0, .int .i64 0, .int .i64 0, .int .i64 0, .int .i64 0, .int .i64 0, .int .i64 0, .int .i64 0, .int .i64 0, .int .i64 0, .int .i64 0] (N0.out.getc b3) (by kernel_rfl) rfl (by kernel_rfl) ?_
  have hS1 : (fun X => Blk X b0 37 C2.arr ∧ Blk X b5 40 #[.int .i64 0, .int .i64 0, .int .i64 0, .int .i64 0, .int .i64 0]) _ := ⟨N0s1.out.getc b0, N0s1.out.getc b5⟩
  refine ⟨hS1, ?_⟩
  refine wpAnyH_all (rs := [3]) (by kernel_rfl) (by simp) ?_
  intro i hi
  obtain rfl : i = 3 := by simpa using hi
  have N0s2 := Lib.hid (N0s1.out.rowc b4 #[.int .i64 0, .int .i64 0, .int .i64 0, .int .i64 0, .int .i64 0])
  refine wpOp_store_row rfl rfl 40 _ _ rfl b4 #[.int .i64 0, .int .i64 0, .int .i64 0, .int .i64 0, .int .i64 0] (by kernel_rfl) (by kernel_rfl) 40 #[.int .i64 0, .int .i64 0, .int .i64 0, .int .i64 0, .int .i64 0] (N0s1.out.getc b4) (by kernel_rfl) rfl (by kernel_rfl) ?_
  have hS2 : (fun X => Blk X b0 37 C2.arr ∧ Blk X b5 40 #[.int .i64 0, .int .i64 0, .int .i64 0, .int .i64 0, .int .i64 0]) _ := ⟨N0s2.out.getc b0, N0s2.out.getc b5⟩
  refine ⟨hS2, ?_⟩
  refine wpAnyH_take (i := 4) (v := .bool true) rfl (by kernel_rfl) (by kernel_rfl) (by kernel_rfl) (fun _ _ _ h => h) (yields_pure rfl (fun w => by kernel_rfl)) hS2 ?_
  refine wpAnyH_done (by kernel_rfl) ?_ _
  refine NoPanic.normal ?_
  go_wp2
  try simp only [Exit.inBlock, Exit.then]
  refine bodyPost_ret (results_cell3_row (p := 8) (u := 9) (q := 10) (ty := 37) (uy := 40) rfl _ _ b3 b4 37 40 C2.arr #[.int .i64 0, .int .i64 0, .int .i64 0, .int .i64 0, .int .i64 0] _ _ (by kernel_rfl) (N0s2.out.getc b3) Try.underlying37 rfl (by kernel_rfl) (by kernel_rfl) (N0s2.out.getc b4) Try.underlying40 rfl (by kernel_rfl) (.bool true) (by kernel_rfl)) rfl ?_
  exact ⟨by rw [HE.out]; first | done | rfl, by rw [HE.out]; exact N0s2.out.back (Rf c L) Y⟩
set_option maxRecDepth 100000 in
set_option maxHeartbeats 4000000 in
theorem jumped_14 [hY : Fr Y] (h : Has B w wr (Star (Rf c L) Y)) (C D : Ctx) (hC : CtxOk C) {a b cc : Nat} (ha : a < 16) (n : Int) : Calls Try.prog 36 #[.agg C.arr, .agg D.arr, .pointer (some ⟨c, 0, none⟩), .agg (insA ⟨14, a, b, cc, n⟩)] wr (JumpE B w c (jumpedS C D L ⟨14, a, b, cc, n⟩) Y) := by
  obtain ⟨R, hR⟩ : ∃ R, jumpedS C D L ⟨14, a, b, cc, n⟩ = R := ⟨_, rfl⟩
  rw [hR]
  have HR := Lib.hid hR
  have HC := Lib.hid hC
  clear hR hC
  unfold Ctx.arr insA
  have M0 := Lib.hid (((((h.newcel 37 #[.int .i64 C.pc, .int .i64 C.tp, .int .i64 (C.r 0), .int .i64 (C.r 1), .int .i64 (C.r 2), .int .i64 (C.r 3), .int .i64 (C.r 4), .int .i64 (C.r 5), .int .i64 (C.r 6), .int .i64 (C.r 7), .int .i64 (C.r 8), .int .i64 (C.r 9), .int .i64 (C.r 10), .int .i64 (C.r 11), .int .i64 (C.r 12), .int .i64 (C.r 13), .int .i64 (C.r 14), .int .i64 (C.r 15)]).newcel 37 #[.int .i64 D.pc, .int .i64 D.tp, .int .i64 (D.r 0), .int .i64 (D.r 1), .int .i64 (D.r 2), .int .i64 (D.r 3), .int .i64 (D.r 4), .int .i64 (D.r 5), .int .i64 (D.r 6), .int .i64 (D.r 7), .int .i64 (D.r 8), .int .i64 (D.r 9), .int .i64 (D.r 10), .int .i64 (D.r 11), .int .i64 (D.r 12), .int .i64 (D.r 13), .int .i64 (D.r 14), .int .i64 (D.r 15)]).newcel 30 #[.int .i64 14, .int .i64 a, .int .i64 b, .int .i64 cc, .int .i64 n]).newcel 37 #[.int .i64 0, .int .i64 0, .int .i64 0, .int .i64 0, .int .i64 0, .int .i64 0, .int .i64 0, .int .i64 0, .int .i64 0, .int .i64 0, .int .i64 0, .int .i64 0, .int .i64 0, .int .i64 0, .int .i64 0, .int .i64 0, .int .i64 0, .int .i64 0]).newcel 40 #[.int .i64 0, .int .i64 0, .int .i64 0, .int .i64 0, .int .i64 0])
  go_enter Try.func36, Try.ntmps36
  go_upto_region 1 with (fail)
  have e1 : (wr.alloc (.cells #[.int .i64 C.pc, .int .i64 C.tp, .int .i64 (C.r 0), .int .i64 (C.r 1), .int .i64 (C.r 2), .int .i64 (C.r 3), .int .i64 (C.r 4), .int .i64 (C.r 5), .int .i64 (C.r 6), .int .i64 (C.r 7), .int .i64 (C.r 8), .int .i64 (C.r 9), .int .i64 (C.r 10), .int .i64 (C.r 11), .int .i64 (C.r 12), .int .i64 (C.r 13), .int .i64 (C.r 14), .int .i64 (C.r 15)] 37)).heap.size = wr.heap.size + 1 := by simp
  have e2 : ((wr.alloc (.cells #[.int .i64 C.pc, .int .i64 C.tp, .int .i64 (C.r 0), .int .i64 (C.r 1), .int .i64 (C.r 2), .int .i64 (C.r 3), .int .i64 (C.r 4), .int .i64 (C.r 5), .int .i64 (C.r 6), .int .i64 (C.r 7), .int .i64 (C.r 8), .int .i64 (C.r 9), .int .i64 (C.r 10), .int .i64 (C.r 11), .int .i64 (C.r 12), .int .i64 (C.r 13), .int .i64 (C.r 14), .int .i64 (C.r 15)] 37)).alloc (.cells #[.int .i64 D.pc, .int .i64 D.tp, .int .i64 (D.r 0), .int .i64 (D.r 1), .int .i64 (D.r 2), .int .i64 (D.r 3), .int .i64 (D.r 4), .int .i64 (D.r 5), .int .i64 (D.r 6), .int .i64 (D.r 7), .int .i64 (D.r 8), .int .i64 (D.r 9), .int .i64 (D.r 10), .int .i64 (D.r 11), .int .i64 (D.r 12), .int .i64 (D.r 13), .int .i64 (D.r 14), .int .i64 (D.r 15)] 37)).heap.size = wr.heap.size + 1 + 1 := by simp
  have e3 : (((wr.alloc (.cells #[.int .i64 C.pc, .int .i64 C.tp, .int .i64 (C.r 0), .int .i64 (C.r 1), .int .i64 (C.r 2), .int .i64 (C.r 3), .int .i64 (C.r 4), .int .i64 (C.r 5), .int .i64 (C.r 6), .int .i64 (C.r 7), .int .i64 (C.r 8), .int .i64 (C.r 9), .int .i64 (C.r 10), .int .i64 (C.r 11), .int .i64 (C.r 12), .int .i64 (C.r 13), .int .i64 (C.r 14), .int .i64 (C.r 15)] 37)).alloc (.cells #[.int .i64 D.pc, .int .i64 D.tp, .int .i64 (D.r 0), .int .i64 (D.r 1), .int .i64 (D.r 2), .int .i64 (D.r 3), .int .i64 (D.r 4), .int .i64 (D.r 5), .int .i64 (D.r 6), .int .i64 (D.r 7), .int .i64 (D.r 8), .int .i64 (D.r 9), .int .i64 (D.r 10), .int .i64 (D.r 11), .int .i64 (D.r 12), .int .i64 (D.r 13), .int .i64 (D.r 14), .int .i64 (D.r 15)] 37)).alloc (.cells #[.int .i64 14, .int .i64 a, .int .i64 b, .int .i64 cc, .int .i64 n] 30)).heap.size = wr.heap.size + 1 + 1 + 1 := by simp
  have e4 : ((((wr.alloc (.cells #[.int .i64 C.pc, .int .i64 C.tp, .int .i64 (C.r 0), .int .i64 (C.r 1), .int .i64 (C.r 2), .int .i64 (C.r 3), .int .i64 (C.r 4), .int .i64 (C.r 5), .int .i64 (C.r 6), .int .i64 (C.r 7), .int .i64 (C.r 8), .int .i64 (C.r 9), .int .i64 (C.r 10), .int .i64 (C.r 11), .int .i64 (C.r 12), .int .i64 (C.r 13), .int .i64 (C.r 14), .int .i64 (C.r 15)] 37)).alloc (.cells #[.int .i64 D.pc, .int .i64 D.tp, .int .i64 (D.r 0), .int .i64 (D.r 1), .int .i64 (D.r 2), .int .i64 (D.r 3), .int .i64 (D.r 4), .int .i64 (D.r 5), .int .i64 (D.r 6), .int .i64 (D.r 7), .int .i64 (D.r 8), .int .i64 (D.r 9), .int .i64 (D.r 10), .int .i64 (D.r 11), .int .i64 (D.r 12), .int .i64 (D.r 13), .int .i64 (D.r 14), .int .i64 (D.r 15)] 37)).alloc (.cells #[.int .i64 14, .int .i64 a, .int .i64 b, .int .i64 cc, .int .i64 n] 30)).alloc (.cells #[.int .i64 0, .int .i64 0, .int .i64 0, .int .i64 0, .int .i64 0, .int .i64 0, .int .i64 0, .int .i64 0, .int .i64 0, .int .i64 0, .int .i64 0, .int .i64 0, .int .i64 0, .int .i64 0, .int .i64 0, .int .i64 0, .int .i64 0, .int .i64 0] 37)).heap.size = wr.heap.size + 1 + 1 + 1 + 1 := by simp
  rw [e4, e3, e2, e1] at M0
  obtain ⟨W, hW⟩ : ∃ W, (((((wr.alloc (.cells #[.int .i64 C.pc, .int .i64 C.tp, .int .i64 (C.r 0), .int .i64 (C.r 1), .int .i64 (C.r 2), .int .i64 (C.r 3), .int .i64 (C.r 4), .int .i64 (C.r 5), .int .i64 (C.r 6), .int .i64 (C.r 7), .int .i64 (C.r 8), .int .i64 (C.r 9), .int .i64 (C.r 10), .int .i64 (C.r 11), .int .i64 (C.r 12), .int .i64 (C.r 13), .int .i64 (C.r 14), .int .i64 (C.r 15)] 37)).alloc (.cells #[.int .i64 D.pc, .int .i64 D.tp, .int .i64 (D.r 0), .int .i64 (D.r 1), .int .i64 (D.r 2), .int .i64 (D.r 3), .int .i64 (D.r 4), .int .i64 (D.r 5), .int .i64 (D.r 6), .int .i64 (D.r 7), .int .i64 (D.r 8), .int .i64 (D.r 9), .int .i64 (D.r 10), .int .i64 (D.r 11), .int .i64 (D.r 12), .int .i64 (D.r 13), .int .i64 (D.r 14), .int .i64 (D.r 15)] 37)).alloc (.cells #[.int .i64 14, .int .i64 a, .int .i64 b, .int .i64 cc, .int .i64 n] 30)).alloc (.cells #[.int .i64 0, .int .i64 0, .int .i64 0, .int .i64 0, .int .i64 0, .int .i64 0, .int .i64 0, .int .i64 0, .int .i64 0, .int .i64 0, .int .i64 0, .int .i64 0, .int .i64 0, .int .i64 0, .int .i64 0, .int .i64 0, .int .i64 0, .int .i64 0] 37)).alloc (.cells #[.int .i64 0, .int .i64 0, .int .i64 0, .int .i64 0, .int .i64 0] 40)) = W := ⟨_, rfl⟩
  rw [hW] at M0 ⊢
  clear e1 e2 e3 e4 hW
  generalize wr.heap.size + 1 + 1 + 1 + 1 = b4 at M0 ⊢
  generalize wr.heap.size + 1 + 1 + 1 = b3 at M0 ⊢
  generalize wr.heap.size + 1 + 1 = b2 at M0 ⊢
  generalize wr.heap.size + 1 = b1 at M0 ⊢
  generalize wr.heap.size = b0 at M0 ⊢
  have M1 : Hid (Has B w W (Star (Cel b4 40 #[.int .i64 0, .int .i64 0, .int .i64 0, .int .i64 0, .int .i64 0]) (Star (Cel b3 37 #[.int .i64 0, .int .i64 0, .int .i64 0, .int .i64 0, .int .i64 0, .int .i64 0, .int .i64 0, .int .i64 0, .int .i64 0, .int .i64 0, .int .i64 0, .int .i64 0, .int .i64 0, .int .i64 0, .int .i64 0, .int .i64 0, .int .i64 0, .int .i64 0]) (Star (Cel b2 30 (insA ⟨14, a, b, cc, n⟩)) (Star (Cel b1 37 D.arr) (Star (Cel b0 37 C.arr) (Star (Rf c L) Y))))))) := M0
  clear M0
  clear h
  have M1a := Lib.hid (M1.out.newcel 40 #[.int .i64 0, .int .i64 0, .int .i64 0, .int .i64 0, .int .i64 0])
  have M1b := Lib.hid (M1a.out.rowc W.heap.size #[.int .i64 0, .int .i64 0, .int .i64 0, .int .i64 0, .int .i64 0])
  go_upto_region 2 with (first | (refine wpList_store_row rfl 40 _ _ rfl W.heap.size #[.int .i64 0, .int .i64 0, .int .i64 0, .int .i64 0, .int .i64 0] rfl rfl 40 #[.int .i64 0, .int .i64 0, .int .i64 0, .int .i64 0, .int .i64 0] (M1a.out.getc W.heap.size) (by kernel_rfl) rfl (by kernel_rfl) ?_))
  obtain ⟨W1, hW1⟩ : ∃ W1, (W.alloc (.cells #[.int .i64 0, .int .i64 0, .int .i64 0, .int .i64 0, .int .i64 0] 40)).setRow W.heap.size #[.int .i64 0, .int .i64 0, .int .i64 0, .int .i64 0, .int .i64 0] = W1 := ⟨_, rfl⟩
  have M2 := M1b
  rw [hW1] at M2 ⊢
  clear hW1 M1a M1b M1
  generalize W.heap.size = b5 at M2 ⊢
  have i0 : W1.cell? ⟨b2, 0, none⟩ = some (.int .i64 (14)) := M2.out.cellat b2 0 rfl
  have i1 : W1.cell? ⟨b2, 1, none⟩ = some (.int .i64 a) := M2.out.cellat b2 1 rfl
  have i4 : W1.cell? ⟨b2, 4, none⟩ = some (.int .i64 n) := M2.out.cellat b2 4 rfl
  have ol : W1.cell? ⟨b0, 0, none⟩ = some (.int .i64 C.pc) := M2.out.cellat b0 0 rfl
  have lv : W1.frozen? ⟨b0, 0, none⟩ = false := M2.out.liveat b0 0
  have ra : W1.cell? ⟨b0, 2 + a, none⟩ = some (.int .i64 (C.r a)) := M2.out.cellat b0 (2 + a) (ctx_reg _ ha)
  have na0 : (0 : Int) ≤ (a : Int) := by omega
  have na1 : (a : Int) < 16 := by omega
  by_cases hz : C.r a = 0
  · have hzb : (C.r a == 0) = true := beq_iff_eq.2 hz
    have HE : Hid (R = ({ C with pc := wrap64 (C.pc + n) }, ev0, true, L)) := Lib.hid (by rw [← HR.out]; show (({ C with pc := if C.r a = 0 then wrap64 (C.pc + n) else C.pc } : Ctx), ev0, true, L) = _; rw [if_pos hz])
    clear HR HC hz
    have M3a := Lib.hid (M2.out.cellc b0 0 (.int .i64 (wrap64 (C.pc + n))) (Ctx.arr { C with pc := wrap64 (C.pc + n) }) rfl)
    obtain ⟨C2, hC2⟩ : ∃ C2 : Ctx, { C with pc := wrap64 (C.pc + n) } = C2 := ⟨_, rfl⟩
    rw [hC2] at M3a HE
    clear hC2
    go_wp2_with fail
    obtain ⟨W2, hW2⟩ : ∃ W2, W1.setCell ⟨b0, 0, none⟩ (.int .i64 (wrap64 (C.pc + n))) = W2 := ⟨_, rfl⟩
    have M3 := M3a
    rw [hW2] at M3 ⊢
    clear hW2 M3a
    have N0 := Lib.hid (M3.out.stay below_drw)
    have HS0 : (fun X => Blk X b0 37 C2.arr ∧ Blk X b5 40 #[.int .i64 0, .int .i64 0, .int .i64 0, .int .i64 0, .int .i64 0]) W2.drew := ⟨N0.out.getc b0, N0.out.getc b5⟩
    refine wp_region_noPanic ?_
    refine wp_region_held_drew (S := fun X => Blk X b0 37 C2.arr ∧ Blk X b5 40 #[.int .i64 0, .int .i64 0, .int .i64 0, .int .i64 0, .int .i64 0]) (by kernel_rfl) HS0 ?_
    clear HS0
    intro hS
    refine wpAnyH_take (i := 0) rfl (by kernel_rfl) (by kernel_rfl) (by kernel_rfl) (fun _ _ _ h => h) (yields_load_row rfl 37 _ rfl b0 (by kernel_rfl) 37 C2.arr _ (fun w h => h.1) Try.underlying37 rfl (by kernel_rfl)) hS ?_
    refine wpAnyH_take (i := 1) rfl (by kernel_rfl) (by kernel_rfl) (by kernel_rfl) (fun _ _ _ h => h) (yields_load_row rfl 40 _ rfl b5 (by kernel_rfl) 40 #[.int .i64 0, .int .i64 0, .int .i64 0, .int .i64 0, .int .i64 0] _ (fun w h => h.2) Try.underlying40 rfl (by kernel_rfl)) hS ?_
    refine wpAnyH_all (rs := [2]) (by kernel_rfl) (by simp) ?_
    intro i hi
    obtain rfl : i = 2 := by simpa using hi
    have N0s1 := Lib.hid (N0.out.rowc b3 C2.arr)
    refine wpOp_store_row rfl rfl 37 _ _ rfl b3 C2.arr (by kernel_rfl) (by kernel_rfl) 37 #[.int .i64 0, .int .i64 0, .int .i64 0, .int .i64 0, .int .i64 0, .int .i64 0, .int .i64 0, .int .i64 0, .int .i64 0, .int .i64 0, .int .i64 0, .int .i64 0, .int .i64 0, .int .i64 0, .int .i64 0, .int .i64 0, .int .i64 0, .int .i64 0] (N0.out.getc b3) (by kernel_rfl) rfl (by kernel_rfl) ?_
    have hS1 : (fun X => Blk X b0 37 C2.arr ∧ Blk X b5 40 #[.int .i64 0, .int .i64 0, .int .i64 0, .int .i64 0, .int .i64 0]) _ := ⟨N0s1.out.getc b0, N0s1.out.getc b5⟩
    refine ⟨hS1, ?_⟩
    refine wpAnyH_all (rs := [3]) (by kernel_rfl) (by simp) ?_
    intro i hi
    obtain rfl : i = 3 := by simpa using hi
    have N0s2 := Lib.hid (N0s1.out.rowc b4 #[.int .i64 0, .int .i64 0, .int .i64 0, .int .i64 0, .int .i64 0])
    refine wpOp_store_row rfl rfl 40 _ _ rfl b4 #[.int .i64 0, .int .i64 0, .int .i64 0, .int .i64 0, .int .i64 0] (by kernel_rfl) (by kernel_rfl) 40 #[.int .i64 0, .int .i64 0, .int .i64 0, .int .i64 0, .int .i64 0] (N0s1.out.getc b4) (by kernel_rfl) rfl (by kernel_rfl) ?_
    have hS2 : (fun X => Blk X b0 37 C2.arr ∧ Blk X b5 40 #[.int .i64 0, .int .i64 0, .int .i64 0, .int .i64 0, .int .i64 0]) _ := ⟨N0s2.out.getc b0, N0s2.out.getc b5⟩
    refine ⟨hS2, ?_⟩
    refine wpAnyH_take (i := 4) (v := .bool true) rfl (by kernel_rfl) (by kernel_rfl) (by kernel_rfl) (fun _ _ _ h => h) (yields_pure rfl (fun w => by kernel_rfl)) hS2 ?_
    refine wpAnyH_done (by kernel_rfl) ?_ _
    refine NoPanic.normal ?_
    go_wp2
    try simp only [Exit.inBlock, Exit.then]
    refine bodyPost_ret (results_cell3_row (p := 8) (u := 9) (q := 10) (ty := 37) (uy := 40) rfl _ _ b3 b4 37 40 C2.arr #[.int .i64 0, .int .i64 0, .int .i64 0, .int .i64 0, .int .i64 0] _ _ (by kernel_rfl) (N0s2.out.getc b3) Try.underlying37 rfl (by kernel_rfl) (by kernel_rfl) (N0s2.out.getc b4) Try.underlying40 rfl (by kernel_rfl) (.bool true) (by kernel_rfl)) rfl ?_
    exact ⟨by rw [HE.out]; first | done | rfl, by rw [HE.out]; exact N0s2.out.back (Rf c L) Y⟩
  · have hzb : (C.r a == 0) = false := beq_eq_false_iff_ne.2 hz
    have HE : Hid (R = (C, ev0, true, L)) := Lib.hid (by rw [← HR.out]; show (({ C with pc := if C.r a = 0 then wrap64 (C.pc + n) else C.pc } : Ctx), ev0, true, L) = _; rw [if_neg hz])
    clear HR HC hz
    go_wp2_with fail
    have N0 := Lib.hid (M2.out.stay below_drw)
    have HS0 : (fun X => Blk X b0 37 C.arr ∧ Blk X b5 40 #[.int .i64 0, .int .i64 0, .int .i64 0, .int .i64 0, .int .i64 0]) W1.drew := ⟨N0.out.getc b0, N0.out.getc b5⟩
    refine wp_region_noPanic ?_
    refine wp_region_held_drew (S := fun X => Blk X b0 37 C.arr ∧ Blk X b5 40 #[.int .i64 0, .int .i64 0, .int .i64 0, .int .i64 0, .int .i64 0]) (by kernel_rfl) HS0 ?_
    clear HS0
    intro hS
    refine wpAnyH_take (i := 0) rfl (by kernel_rfl) (by kernel_rfl) (by kernel_rfl) (fun _ _ _ h => h) (yields_load_row rfl 37 _ rfl b0 (by kernel_rfl) 37 C.arr _ (fun w h => h.1) Try.underlying37 rfl (by kernel_rfl)) hS ?_
    refine wpAnyH_take (i := 1) rfl (by kernel_rfl) (by kernel_rfl) (by kernel_rfl) (fun _ _ _ h => h) (yields_load_row rfl 40 _ rfl b5 (by kernel_rfl) 40 #[.int .i64 0, .int .i64 0, .int .i64 0, .int .i64 0, .int .i64 0] _ (fun w h => h.2) Try.underlying40 rfl (by kernel_rfl)) hS ?_
    refine wpAnyH_all (rs := [2]) (by kernel_rfl) (by simp) ?_
    intro i hi
    obtain rfl : i = 2 := by simpa using hi
    have N0s1 := Lib.hid (N0.out.rowc b3 C.arr)
    refine wpOp_store_row rfl rfl 37 _ _ rfl b3 C.arr (by kernel_rfl) (by kernel_rfl) 37 #[.int .i64 0, .int .i64 0, .int .i64 0, .int .i64 0, .int .i64 0, .int .i64 0, .int .i64 0, .int .i64 0, .int .i64 0, .int .i64 0, .int .i64 0, .int .i64 0, .int .i64 0, .int .i64 0, .int .i64 0, .int .i64 0, .int .i64 0, .int .i64 0] (N0.out.getc b3) (by kernel_rfl) rfl (by kernel_rfl) ?_
    have hS1 : (fun X => Blk X b0 37 C.arr ∧ Blk X b5 40 #[.int .i64 0, .int .i64 0, .int .i64 0, .int .i64 0, .int .i64 0]) _ := ⟨N0s1.out.getc b0, N0s1.out.getc b5⟩
    refine ⟨hS1, ?_⟩
    refine wpAnyH_all (rs := [3]) (by kernel_rfl) (by simp) ?_
    intro i hi
    obtain rfl : i = 3 := by simpa using hi
    have N0s2 := Lib.hid (N0s1.out.rowc b4 #[.int .i64 0, .int .i64 0, .int .i64 0, .int .i64 0, .int .i64 0])
    refine wpOp_store_row rfl rfl 40 _ _ rfl b4 #[.int .i64 0, .int .i64 0, .int .i64 0, .int .i64 0, .int .i64 0] (by kernel_rfl) (by kernel_rfl) 40 #[.int .i64 0, .int .i64 0, .int .i64 0, .int .i64 0, .int .i64 0] (N0s1.out.getc b4) (by kernel_rfl) rfl (by kernel_rfl) ?_
    have hS2 : (fun X => Blk X b0 37 C.arr ∧ Blk X b5 40 #[.int .i64 0, .int .i64 0, .int .i64 0, .int .i64 0, .int .i64 0]) _ := ⟨N0s2.out.getc b0, N0s2.out.getc b5⟩
    refine ⟨hS2, ?_⟩
    refine wpAnyH_take (i := 4) (v := .bool true) rfl (by kernel_rfl) (by kernel_rfl) (by kernel_rfl) (fun _ _ _ h => h) (yields_pure rfl (fun w => by kernel_rfl)) hS2 ?_
    refine wpAnyH_done (by kernel_rfl) ?_ _
    refine NoPanic.normal ?_
    go_wp2
    try simp only [Exit.inBlock, Exit.then]
    refine bodyPost_ret (results_cell3_row (p := 8) (u := 9) (q := 10) (ty := 37) (uy := 40) rfl _ _ b3 b4 37 40 C.arr #[.int .i64 0, .int .i64 0, .int .i64 0, .int .i64 0, .int .i64 0] _ _ (by kernel_rfl) (N0s2.out.getc b3) Try.underlying37 rfl (by kernel_rfl) (by kernel_rfl) (N0s2.out.getc b4) Try.underlying40 rfl (by kernel_rfl) (.bool true) (by kernel_rfl)) rfl ?_
    exact ⟨by rw [HE.out]; first | done | rfl, by rw [HE.out]; exact N0s2.out.back (Rf c L) Y⟩
set_option maxRecDepth 100000 in
set_option maxHeartbeats 4000000 in
theorem jumped_17 [hY : Fr Y] (h : Has B w wr (Star (Rf c L) Y)) (C D : Ctx) (hC : CtxOk C) {a b cc : Nat} (ha : a < 16) (n : Int) : Calls Try.prog 36 #[.agg C.arr, .agg D.arr, .pointer (some ⟨c, 0, none⟩), .agg (insA ⟨17, a, b, cc, n⟩)] wr (JumpE B w c (jumpedS C D L ⟨17, a, b, cc, n⟩) Y) := by
  obtain ⟨R, hR⟩ : ∃ R, jumpedS C D L ⟨17, a, b, cc, n⟩ = R := ⟨_, rfl⟩
  rw [hR]
  have HR := Lib.hid hR
  have HC := Lib.hid hC
  clear hR hC
  unfold Ctx.arr insA
  have M0 := Lib.hid (((((h.newcel 37 #[.int .i64 C.pc, .int .i64 C.tp, .int .i64 (C.r 0), .int .i64 (C.r 1), .int .i64 (C.r 2), .int .i64 (C.r 3), .int .i64 (C.r 4), .int .i64 (C.r 5), .int .i64 (C.r 6), .int .i64 (C.r 7), .int .i64 (C.r 8), .int .i64 (C.r 9), .int .i64 (C.r 10), .int .i64 (C.r 11), .int .i64 (C.r 12), .int .i64 (C.r 13), .int .i64 (C.r 14), .int .i64 (C.r 15)]).newcel 37 #[.int .i64 D.pc, .int .i64 D.tp, .int .i64 (D.r 0), .int .i64 (D.r 1), .int .i64 (D.r 2), .int .i64 (D.r 3), .int .i64 (D.r 4), .int .i64 (D.r 5), .int .i64 (D.r 6), .int .i64 (D.r 7), .int .i64 (D.r 8), .int .i64 (D.r 9), .int .i64 (D.r 10), .int .i64 (D.r 11), .int .i64 (D.r 12), .int .i64 (D.r 13), .int .i64 (D.r 14), .int .i64 (D.r 15)]).newcel 30 #[.int .i64 17, .int .i64 a, .int .i64 b, .int .i64 cc, .int .i64 n]).newcel 37 #[.int .i64 0, .int .i64 0, .int .i64 0, .int .i64 0, .int .i64 0, .int .i64 0, .int .i64 0, .int .i64 0, .int .i64 0, .int .i64 0, .int .i64 0, .int .i64 0, .int .i64 0, .int .i64 0, .int .i64 0, .int .i64 0, .int .i64 0, .int .i64 0]).newcel 40 #[.int .i64 0, .int .i64 0, .int .i64 0, .int .i64 0, .int .i64 0])
  go_enter Try.func36, Try.ntmps36
  go_upto_region 1 with (fail)
  have e1 : (wr.alloc (.cells #[.int .i64 C.pc, .int .i64 C.tp, .int .i64 (C.r 0), .int .i64 (C.r 1), .int .i64 (C.r 2), .int .i64 (C.r 3), .int .i64 (C.r 4), .int .i64 (C.r 5), .int .i64 (C.r 6), .int .i64 (C.r 7), .int .i64 (C.r 8), .int .i64 (C.r 9), .int .i64 (C.r 10), .int .i64 (C.r 11), .int .i64 (C.r 12), .int .i64 (C.r 13), .int .i64 (C.r 14), .int .i64 (C.r 15)] 37)).heap.size = wr.heap.size + 1 := by simp
  have e2 : ((wr.alloc (.cells #[.int .i64 C.pc, .int .i64 C.tp, .int .i64 (C.r 0), .int .i64 (C.r 1), .int .i64 (C.r 2), .int .i64 (C.r 3), .int .i64 (C.r 4), .int .i64 (C.r 5), .int .i64 (C.r 6), .int .i64 (C.r 7), .int .i64 (C.r 8), .int .i64 (C.r 9), .int .i64 (C.r 10), .int .i64 (C.r 11), .int .i64 (C.r 12), .int .i64 (C.r 13), .int .i64 (C.r 14), .int .i64 (C.r 15)] 37)).alloc (.cells #[.int .i64 D.pc, .int .i64 D.tp, .int .i64 (D.r 0), .int .i64 (D.r 1), .int .i64 (D.r 2), .int .i64 (D.r 3), .int .i64 (D.r 4), .int .i64 (D.r 5), .int .i64 (D.r 6), .int .i64 (D.r 7), .int .i64 (D.r 8), .int .i64 (D.r 9), .int .i64 (D.r 10), .int .i64 (D.r 11), .int .i64 (D.r 12), .int .i64 (D.r 13), .int .i64 (D.r 14), .int .i64 (D.r 15)] 37)).heap.size = wr.heap.size + 1 + 1 := by simp
  have e3 : (((wr.alloc (.cells #[.int .i64 C.pc, .int .i64 C.tp, .int .i64 (C.r 0), .int .i64 (C.r 1), .int .i64 (C.r 2), .int .i64 (C.r 3), .int .i64 (C.r 4), .int .i64 (C.r 5), .int .i64 (C.r 6), .int .i64 (C.r 7), .int .i64 (C.r 8), .int .i64 (C.r 9), .int .i64 (C.r 10), .int .i64 (C.r 11), .int .i64 (C.r 12), .int .i64 (C.r 13), .int .i64 (C.r 14), .int .i64 (C.r 15)] 37)).alloc (.cells #[.int .i64 D.pc, .int .i64 D.tp, .int .i64 (D.r 0), .int .i64 (D.r 1), .int .i64 (D.r 2), .int .i64 (D.r 3), .int .i64 (D.r 4), .int .i64 (D.r 5), .int .i64 (D.r 6), .int .i64 (D.r 7), .int .i64 (D.r 8), .int .i64 (D.r 9), .int .i64 (D.r 10), .int .i64 (D.r 11), .int .i64 (D.r 12), .int .i64 (D.r 13), .int .i64 (D.r 14), .int .i64 (D.r 15)] 37)).alloc (.cells #[.int .i64 17, .int .i64 a, .int .i64 b, .int .i64 cc, .int .i64 n] 30)).heap.size = wr.heap.size + 1 + 1 + 1 := by simp
  have e4 : ((((wr.alloc (.cells #[.int .i64 C.pc, .int .i64 C.tp, .int .i64 (C.r 0), .int .i64 (C.r 1), .int .i64 (C.r 2), .int .i64 (C.r 3), .int .i64 (C.r 4), .int .i64 (C.r 5), .int .i64 (C.r 6), .int .i64 (C.r 7), .int .i64 (C.r 8), .int .i64 (C.r 9), .int .i64 (C.r 10), .int .i64 (C.r 11), .int .i64 (C.r 12), .int .i64 (C.r 13), .int .i64 (C.r 14), .int .i64 (C.r 15)] 37)).alloc (.cells #[.int .i64 D.pc, .int .i64 D.tp, .int .i64 (D.r 0), .int .i64 (D.r 1), .int .i64 (D.r 2), .int .i64 (D.r 3), .int .i64 (D.r 4), .int .i64 (D.r 5), .int .i64 (D.r 6), .int .i64 (D.r 7), .int .i64 (D.r 8), .int .i64 (D.r 9), .int .i64 (D.r 10), .int .i64 (D.r 11), .int .i64 (D.r 12), .int .i64 (D.r 13), .int .i64 (D.r 14), .int .i64 (D.r 15)] 37)).alloc (.cells #[.int .i64 17, .int .i64 a, .int .i64 b, .int .i64 cc, .int .i64 n] 30)).alloc (.cells #[.int .i64 0, .int .i64 0, .int .i64 0, .int .i64 0, .int .i64 0, .int .i64 0, .int .i64 0, .int .i64 0, .int .i64 0, .int .i64 0, .int .i64 0, .int .i64 0, .int .i64 0, .int .i64 0, .int .i64 0, .int .i64 0, .int .i64 0, .int .i64 0] 37)).heap.size = wr.heap.size + 1 + 1 + 1 + 1 := by simp
  rw [e4, e3, e2, e1] at M0
  obtain ⟨W, hW⟩ : ∃ W, (((((wr.alloc (.cells #[.int .i64 C.pc, .int .i64 C.tp, .int .i64 (C.r 0), .int .i64 (C.r 1), .int .i64 (C.r 2), .int .i64 (C.r 3), .int .i64 (C.r 4), .int .i64 (C.r 5), .int .i64 (C.r 6), .int .i64 (C.r 7), .int .i64 (C.r 8), .int .i64 (C.r 9), .int .i64 (C.r 10), .int .i64 (C.r 11), .int .i64 (C.r 12), .int .i64 (C.r 13), .int .i64 (C.r 14), .int .i64 (C.r 15)] 37)).alloc (.cells #[.int .i64 D.pc, .int .i64 D.tp, .int .i64 (D.r 0), .int .i64 (D.r 1), .int .i64 (D.r 2), .int .i64 (D.r 3), .int .i64 (D.r 4), .int .i64 (D.r 5), .int .i64 (D.r 6), .int .i64 (D.r 7), .int .i64 (D.r 8), .int .i64 (D.r 9), .int .i64 (D.r 10), .int .i64 (D.r 11), .int .i64 (D.r 12), .int .i64 (D.r 13), .int .i64 (D.r 14), .int .i64 (D.r 15)] 37)).alloc (.cells #[.int .i64 17, .int .i64 a, .int .i64 b, .int .i64 cc, .int .i64 n] 30)).alloc (.cells #[.int .i64 0, .int .i64 0, .int .i64 0, .int .i64 0, .int .i64 0, .int .i64 0, .int .i64 0, .int .i64 0, .int .i64 0, .int .i64 0, .int .i64 0, .int .i64 0, .int .i64 0, .int .i64 0, .int .i64 0, .int .i64 0, .int .i64 0, .int .i64 0] 37)).alloc (.cells #[.int .i64 0, .int .i64 0, .int .i64 0, .int .i64 0, .int .i64 0] 40)) = W := ⟨_, rfl⟩
  rw [hW] at M0 ⊢
  clear e1 e2 e3 e4 hW
  generalize wr.heap.size + 1 + 1 + 1 + 1 = b4 at M0 ⊢
  generalize wr.heap.size + 1 + 1 + 1 = b3 at M0 ⊢
  generalize wr.heap.size + 1 + 1 = b2 at M0 ⊢
  generalize wr.heap.size + 1 = b1 at M0 ⊢
  generalize wr.heap.size = b0 at M0 ⊢
  have M1 : Hid (Has B w W (Star (Cel b4 40 #[.int .i64 0, .int .i64 0, .int .i64 0, .int .i64 0, .int .i64 0]) (Star (Cel b3 37 #[.int .i64 0, .int .i64 0, .int .i64 0, .int .i64 0, .int .i64 0, .int .i64 0, .int .i64 0, .int .i64 0, .int .i64 0, .int .i64 0, .int .i64 0, .int .i64 0, .int .i64 0, .int .i64 0, .int .i64 0, .int .i64 0, .int .i64 0, .int .i64 0]) (Star (Cel b2 30 (insA ⟨17, a, b, cc, n⟩)) (Star (Cel b1 37 D.arr) (Star (Cel b0 37 C.arr) (Star (Rf c L) Y))))))) := M0
  clear M0
  clear h
  have M1a := Lib.hid (M1.out.newcel 40 #[.int .i64 0, .int .i64 0, .int .i64 0, .int .i64 0, .int .i64 0])
  have M1b := Lib.hid (M1a.out.rowc W.heap.size #[.int .i64 0, .int .i64 0, .int .i64 0, .int .i64 0, .int .i64 0])
  go_upto_region 2 with (first | (refine wpList_store_row rfl 40 _ _ rfl W.heap.size #[.int .i64 0, .int .i64 0, .int .i64 0, .int .i64 0, .int .i64 0] rfl rfl 40 #[.int .i64 0, .int .i64 0, .int .i64 0, .int .i64 0, .int .i64 0] (M1a.out.getc W.heap.size) (by kernel_rfl) rfl (by kernel_rfl) ?_))
  obtain ⟨W1, hW1⟩ : ∃ W1, (W.alloc (.cells #[.int .i64 0, .int .i64 0, .int .i64 0, .int .i64 0, .int .i64 0] 40)).setRow W.heap.size #[.int .i64 0, .int .i64 0, .int .i64 0, .int .i64 0, .int .i64 0] = W1 := ⟨_, rfl⟩
  have M2 := M1b
  rw [hW1] at M2 ⊢
  clear hW1 M1a M1b M1
  generalize W.heap.size = b5 at M2 ⊢
  have i0 : W1.cell? ⟨b2, 0, none⟩ = some (.int .i64 (17)) := M2.out.cellat b2 0 rfl
  have i1 : W1.cell? ⟨b2, 1, none⟩ = some (.int .i64 a) := M2.out.cellat b2 1 rfl
  have i4 : W1.cell? ⟨b2, 4, none⟩ = some (.int .i64 n) := M2.out.cellat b2 4 rfl
  have ol : W1.cell? ⟨b0, 0, none⟩ = some (.int .i64 C.pc) := M2.out.cellat b0 0 rfl
  have lv : W1.frozen? ⟨b0, 0, none⟩ = false := M2.out.liveat b0 0
  have ra : W1.cell? ⟨b0, 2 + a, none⟩ = some (.int .i64 (C.r a)) := M2.out.cellat b0 (2 + a) (ctx_reg _ ha)
  have na0 : (0 : Int) ≤ (a : Int) := by omega
  have na1 : (a : Int) < 16 := by omega
  have HE : Hid (R = ({ C with pc := C.r a }, ev0, true, L)) := Lib.hid (by rw [← HR.out]; rfl)
  clear HR HC
  have M3a := Lib.hid (M2.out.cellc b0 0 (.int .i64 (C.r a)) (Ctx.arr { C with pc := C.r a }) rfl)
  obtain ⟨C2, hC2⟩ : ∃ C2 : Ctx, { C with pc := C.r a } = C2 := ⟨_, rfl⟩
  rw [hC2] at M3a HE
  clear hC2
  go_wp2_with fail
  obtain ⟨W2, hW2⟩ : ∃ W2, W1.setCell ⟨b0, 0, none⟩ (.int .i64 (C.r a)) = W2 := ⟨_, rfl⟩
  have M3 := M3a
  rw [hW2] at M3 ⊢
  clear hW2 M3a
  have N0 := Lib.hid (M3.out.stay below_drw)
  have HS0 : (fun X => Blk X b0 37 C2.arr ∧ Blk X b5 40 #[.int .i64 0, .int .i64 0, .int .i64 0, .int .i64 0, .int .i64 0]) W2.drew := ⟨N0.out.getc b0, N0.out.getc b5⟩
  refine wp_region_noPanic ?_
  refine wp_region_held_drew (S := fun X => Blk X b0 37 C2.arr ∧ Blk X b5 40 #[.int .i64 0, .int .i64 0, .int .i64 0, .int .i64 0, .int .i64 0]) (by kernel_rfl) HS0 ?_
  clear HS0
  intro hS
  refine wpAnyH_take (i := 0) rfl (by kernel_rfl) (by kernel_rfl) (by kernel_rfl) (fun _ _ _ h => h) (yields_load_row rfl 37 _ rfl b0 (by kernel_rfl) 37 C2.arr _ (fun w h => h.1) Try.underlying37 rfl (by kernel_rfl)) hS ?_
  refine wpAnyH_take (i := 1) rfl (by kernel_rfl) (by kernel_rfl) (by kernel_rfl) (fun _ _ _ h => h) (yields_load_row rfl 40 _ rfl b5 (by kernel_rfl) 40 #[.int .i64 0, .int .i64 0, .int .i64 0, .int .i64 0, .int .i64 0] _ (fun w h => h.2) Try.underlying40 rfl (by kernel_rfl)) hS ?_
  refine wpAnyH_all (rs := [2]) (by kernel_rfl) (by simp) ?_
  intro i hi
  obtain rfl : i = 2 := by simpa using hi
  have N0s1 := Lib.hid (N0.out.rowc b3 C2.arr)
  refine wpOp_store_row rfl rfl 37 _ _ rfl b3 C2.arr (by kernel_rfl) (by kernel_rfl) 37 #[.int .i64 0, .int .i64 0, .int .i64 0, .int .i64 0, .int .i64 0, .int .i64 0, .int .i64 0, .int .i64 0, .int .i64 0, .int .i64 0, .int .i64 0, .int .i64 0, .int .i64 0, .int .i64 0, .int .i64 0, .int .i64 0, .int .i64 0, .int .i64 0] (N0.out.getc b3) (by kernel_rfl) rfl (by kernel_rfl) ?_
  have hS1 : (fun X => Blk X b0 37 C2.arr ∧ Blk X b5 40 #[.int .i64 0, .int .i64 0, .int .i64 0, .int .i64 0, .int .i64 0]) _ := ⟨N0s1.out.getc b0, N0s1.out.getc b5⟩
  refine ⟨hS1, ?_⟩
  refine wpAnyH_all (rs := [3]) (by kernel_rfl) (by simp) ?_
  intro i hi
  obtain rfl : i = 3 := by simpa using hi
  have N0s2 := Lib.hid (N0s1.out.rowc b4 #[.int .i64 0, .int .i64 0, .int .i64 0, .int .i64 0, .int .i64 0])
  refine wpOp_store_row rfl rfl 40 _ _ rfl b4 #[.int .i64 0, .int .i64 0, .int .i64 0, .int .i64 0, .int .i64 0] (by kernel_rfl) (by kernel_rfl) 40 #[.int .i64 0, .int .i64 0, .int .i64 0, .int .i64 0, .int .i64 0] (N0s1.out.getc b4) (by kernel_rfl) rfl (by kernel_rfl) ?_
  have hS2 : (fun X => Blk X b0 37 C2.arr ∧ Blk X b5 40 #[.int .i64 0, .int .i64 0, .int .i64 0, .int .i64 0, .int .i64 0]) _ := ⟨N0s2.out.getc b0, N0s2.out.getc b5⟩
  refine ⟨hS2, ?_⟩
  refine wpAnyH_take (i := 4) (v := .bool true) rfl (by kernel_rfl) (by kernel_rfl) (by kernel_rfl) (fun _ _ _ h => h) (yields_pure rfl (fun w => by kernel_rfl)) hS2 ?_
  refine wpAnyH_done (by kernel_rfl) ?_ _
  refine NoPanic.normal ?_
  go_wp2
  try simp only [Exit.inBlock, Exit.then]
  refine bodyPost_ret (results_cell3_row (p := 8) (u := 9) (q := 10) (ty := 37) (uy := 40) rfl _ _ b3 b4 37 40 C2.arr #[.int .i64 0, .int .i64 0, .int .i64 0, .int .i64 0, .int .i64 0] _ _ (by kernel_rfl) (N0s2.out.getc b3) Try.underlying37 rfl (by kernel_rfl) (by kernel_rfl) (N0s2.out.getc b4) Try.underlying40 rfl (by kernel_rfl) (.bool true) (by kernel_rfl)) rfl ?_
  exact ⟨by rw [HE.out]; first | done | rfl, by rw [HE.out]; exact N0s2.out.back (Rf c L) Y⟩
set_option maxRecDepth 100000 in
set_option maxHeartbeats 4000000 in
theorem jumped_not [hY : Fr Y] (h : Has B w wr (Star (Rf c L) Y)) (C D : Ctx) (hC : CtxOk C) {a b cc : Nat} (ha : a < 16) (op n : Int) (h13 : op ≠ 13) (h14 : op ≠ 14) (h15 : op ≠ 15) (h16 : op ≠ 16) (h17 : op ≠ 17) (h18 : op ≠ 18) : Calls Try.prog 36 #[.agg C.arr, .agg D.arr, .pointer (some ⟨c, 0, none⟩), .agg (insA ⟨op, a, b, cc, n⟩)] wr (JumpE B w c (jumpedS C D L ⟨op, a, b, cc, n⟩) Y) := by
  obtain ⟨R, hR⟩ : ∃ R, jumpedS C D L ⟨op, a, b, cc, n⟩ = R := ⟨_, rfl⟩
  rw [hR]
  have HR := Lib.hid hR
  have HC := Lib.hid hC
  clear hR hC
  unfold Ctx.arr insA
  have M0 := Lib.hid (((((h.newcel 37 #[.int .i64 C.pc, .int .i64 C.tp, .int .i64 (C.r 0), .int .i64 (C.r 1), .int .i64 (C.r 2), .int .i64 (C.r 3), .int .i64 (C.r 4), .int .i64 (C.r 5), .int .i64 (C.r 6), .int .i64 (C.r 7), .int .i64 (C.r 8), .int .i64 (C.r 9), .int .i64 (C.r 10), .int .i64 (C.r 11), .int .i64 (C.r 12), .int .i64 (C.r 13), .int .i64 (C.r 14), .int .i64 (C.r 15)]).newcel 37 #[.int .i64 D.pc, .int .i64 D.tp, .int .i64 (D.r 0), .int .i64 (D.r 1), .int .i64 (D.r 2), .int .i64 (D.r 3), .int .i64 (D.r 4), .int .i64 (D.r 5), .int .i64 (D.r 6), .int .i64 (D.r 7), .int .i64 (D.r 8), .int .i64 (D.r 9), .int .i64 (D.r 10), .int .i64 (D.r 11), .int .i64 (D.r 12), .int .i64 (D.r 13), .int .i64 (D.r 14), .int .i64 (D.r 15)]).newcel 30 #[.int .i64 op, .int .i64 a, .int .i64 b, .int .i64 cc, .int .i64 n]).newcel 37 #[.int .i64 0, .int .i64 0, .int .i64 0, .int .i64 0, .int .i64 0, .int .i64 0, .int .i64 0, .int .i64 0, .int .i64 0, .int .i64 0, .int .i64 0, .int .i64 0, .int .i64 0, .int .i64 0, .int .i64 0, .int .i64 0, .int .i64 0, .int .i64 0]).newcel 40 #[.int .i64 0, .int .i64 0, .int .i64 0, .int .i64 0, .int .i64 0])
  go_enter Try.func36, Try.ntmps36
  go_upto_region 1 with (fail)
  have e1 : (wr.alloc (.cells #[.int .i64 C.pc, .int .i64 C.tp, .int .i64 (C.r 0), .int .i64 (C.r 1), .int .i64 (C.r 2), .int .i64 (C.r 3), .int .i64 (C.r 4), .int .i64 (C.r 5), .int .i64 (C.r 6), .int .i64 (C.r 7), .int .i64 (C.r 8), .int .i64 (C.r 9), .int .i64 (C.r 10), .int .i64 (C.r 11), .int .i64 (C.r 12), .int .i64 (C.r 13), .int .i64 (C.r 14), .int .i64 (C.r 15)] 37)).heap.size = wr.heap.size + 1 := by simp
  have e2 : ((wr.alloc (.cells #[.int .i64 C.pc, .int .i64 C.tp, .int .i64 (C.r 0), .int .i64 (C.r 1), .int .i64 (C.r 2), .int .i64 (C.r 3), .int .i64 (C.r 4), .int .i64 (C.r 5), .int .i64 (C.r 6), .int .i64 (C.r 7), .int .i64 (C.r 8), .int .i64 (C.r 9), .int .i64 (C.r 10), .int .i64 (C.r 11), .int .i64 (C.r 12), .int .i64 (C.r 13), .int .i64 (C.r 14), .int .i64 (C.r 15)] 37)).alloc (.cells #[.int .i64 D.pc, .int .i64 D.tp, .int .i64 (D.r 0), .int .i64 (D.r 1), .int .i64 (D.r 2), .int .i64 (D.r 3), .int .i64 (D.r 4), .int .i64 (D.r 5), .int .i64 (D.r 6), .int .i64 (D.r 7), .int .i64 (D.r 8), .int .i64 (D.r 9), .int .i64 (D.r 10), .int .i64 (D.r 11), .int .i64 (D.r 12), .int .i64 (D.r 13), .int .i64 (D.r 14), .int .i64 (D.r 15)] 37)).heap.size = wr.heap.size + 1 + 1 := by simp
  have e3 : (((wr.alloc (.cells #[.int .i64 C.pc, .int .i64 C.tp, .int .i64 (C.r 0), .int .i64 (C.r 1), .int .i64 (C.r 2), .int .i64 (C.r 3), .int .i64 (C.r 4), .int .i64 (C.r 5), .int .i64 (C.r 6), .int .i64 (C.r 7), .int .i64 (C.r 8), .int .i64 (C.r 9), .int .i64 (C.r 10), .int .i64 (C.r 11), .int .i64 (C.r 12), .int .i64 (C.r 13), .int .i64 (C.r 14), .int .i64 (C.r 15)] 37)).alloc (.cells #[.int .i64 D.pc, .int .i64 D.tp, .int .i64 (D.r 0), .int .i64 (D.r 1), .int .i64 (D.r 2), .int .i64 (D.r 3), .int .i64 (D.r 4), .int .i64 (D.r 5), .int .i64 (D.r 6), .int .i64 (D.r 7), .int .i64 (D.r 8), .int .i64 (D.r 9), .int .i64 (D.r 10), .int .i64 (D.r 11), .int .i64 (D.r 12), .int .i64 (D.r 13), .int .i64 (D.r 14), .int .i64 (D.r 15)] 37)).alloc (.cells #[.int .i64 op, .int .i64 a, .int .i64 b, .int .i64 cc, .int .i64 n] 30)).heap.size = wr.heap.size + 1 + 1 + 1 := by simp
  have e4 : ((((wr.alloc (.cells #[.int .i64 C.pc, .int .i64 C.tp, .int .i64 (C.r 0), .int .i64 (C.r 1), .int .i64 (C.r 2), .int .i64 (C.r 3), .int .i64 (C.r 4), .int .i64 (C.r 5), .int .i64 (C.r 6), .int .i64 (C.r 7), .int .i64 (C.r 8), .int .i64 (C.r 9), .int .i64 (C.r 10), .int .i64 (C.r 11), .int .i64 (C.r 12), .int .i64 (C.r 13), .int .i64 (C.r 14), .int .i64 (C.r 15)] 37)).alloc (.cells #[.int .i64 D.pc, .int .i64 D.tp, .int .i64 (D.r 0), .int .i64 (D.r 1), .int .i64 (D.r 2), .int .i64 (D.r 3), .int .i64 (D.r 4), .int .i64 (D.r 5), .int .i64 (D.r 6), .int .i64 (D.r 7), .int .i64 (D.r 8), .int .i64 (D.r 9), .int .i64 (D.r 10), .int .i64 (D.r 11), .int .i64 (D.r 12), .int .i64 (D.r 13), .int .i64 (D.r 14), .int .i64 (D.r 15)] 37)).alloc (.cells #[.int .i64 op, .int .i64 a, .int .i64 b, .int .i64 cc, .int .i64 n] 30)).alloc (.cells #[.int .i64 0, .int .i64 0, .int .i64 0, .int .i64 0, .int .i64 0, .int .i64 0, .int .i64 0, .int .i64 0, .int .i64 0, .int .i64 0, .int .i64 0, .int .i64 0, .int .i64 0, .int .i64 0, .int .i64 0, .int .i64 0, .int .i64 0, .int .i64 0] 37)).heap.size = wr.heap.size + 1 + 1 + 1 + 1 := by simp
  rw [e4, e3, e2, e1] at M0
  obtain ⟨W, hW⟩ : ∃ W, (((((wr.alloc (.cells #[.int .i64 C.pc, .int .i64 C.tp, .int .i64 (C.r 0), .int .i64 (C.r 1), .int .i64 (C.r 2), .int .i64 (C.r 3), .int .i64 (C.r 4), .int .i64 (C.r 5), .int .i64 (C.r 6), .int .i64 (C.r 7), .int .i64 (C.r 8), .int .i64 (C.r 9), .int .i64 (C.r 10), .int .i64 (C.r 11), .int .i64 (C.r 12), .int .i64 (C.r 13), .int .i64 (C.r 14), .int .i64 (C.r 15)] 37)).alloc (.cells #[.int .i64 D.pc, .int .i64 D.tp, .int .i64 (D.r 0), .int .i64 (D.r 1), .int .i64 (D.r 2), .int .i64 (D.r 3), .int .i64 (D.r 4), .int .i64 (D.r 5), .int .i64 (D.r 6), .int .i64 (D.r 7), .int .i64 (D.r 8), .int .i64 (D.r 9), .int .i64 (D.r 10), .int .i64 (D.r 11), .int .i64 (D.r 12), .int .i64 (D.r 13), .int .i64 (D.r 14), .int .i64 (D.r 15)] 37)).alloc (.cells #[.int .i64 op, .int .i64 a, .int .i64 b, .int .i64 cc, .int .i64 n] 30)).alloc (.cells #[.int .i64 0, .int .i64 0, .int .i64 0, .int .i64 0, .int .i64 0, .int .i64 0, .int .i64 0, .int .i64 0, .int .i64 0, .int .i64 0, .int .i64 0, .int .i64 0, .int .i64 0, .int .i64 0, .int .i64 0, .int .i64 0, .int .i64 0, .int .i64 0] 37)).alloc (.cells #[.int .i64 0, .int .i64 0, .int .i64 0, .int .i64 0, .int .i64 0] 40)) = W := ⟨_, rfl⟩
  rw [hW] at M0 ⊢
  clear e1 e2 e3 e4 hW
  generalize wr.heap.size + 1 + 1 + 1 + 1 = b4 at M0 ⊢
  generalize wr.heap.size + 1 + 1 + 1 = b3 at M0 ⊢
  generalize wr.heap.size + 1 + 1 = b2 at M0 ⊢
  generalize wr.heap.size + 1 = b1 at M0 ⊢
  generalize wr.heap.size = b0 at M0 ⊢
  have M1 : Hid (Has B w W (Star (Cel b4 40 #[.int .i64 0, .int .i64 0, .int .i64 0, .int .i64 0, .int .i64 0]) (Star (Cel b3 37 #[.int .i64 0, .int .i64 0, .int .i64 0, .int .i64 0, .int .i64 0, .int .i64 0, .int .i64 0, .int .i64 0, .int .i64 0, .int .i64 0, .int .i64 0, .int .i64 0, .int .i64 0, .int .i64 0, .int .i64 0, .int .i64 0, .int .i64 0, .int .i64 0]) (Star (Cel b2 30 (insA ⟨op, a, b, cc, n⟩)) (Star (Cel b1 37 D.arr) (Star (Cel b0 37 C.arr) (Star (Rf c L) Y))))))) := M0
  clear M0
  clear h
  have M1a := Lib.hid (M1.out.newcel 40 #[.int .i64 0, .int .i64 0, .int .i64 0, .int .i64 0, .int .i64 0])
  have M1b := Lib.hid (M1a.out.rowc W.heap.size #[.int .i64 0, .int .i64 0, .int .i64 0, .int .i64 0, .int .i64 0])
  go_upto_region 2 with (first | (refine wpList_store_row rfl 40 _ _ rfl W.heap.size #[.int .i64 0, .int .i64 0, .int .i64 0, .int .i64 0, .int .i64 0] rfl rfl 40 #[.int .i64 0, .int .i64 0, .int .i64 0, .int .i64 0, .int .i64 0] (M1a.out.getc W.heap.size) (by kernel_rfl) rfl (by kernel_rfl) ?_))
  obtain ⟨W1, hW1⟩ : ∃ W1, (W.alloc (.cells #[.int .i64 0, .int .i64 0, .int .i64 0, .int .i64 0, .int .i64 0] 40)).setRow W.heap.size #[.int .i64 0, .int .i64 0, .int .i64 0, .int .i64 0, .int .i64 0] = W1 := ⟨_, rfl⟩
  have M2 := M1b
  rw [hW1] at M2 ⊢
  clear hW1 M1a M1b M1
  generalize W.heap.size = b5 at M2 ⊢
  have i0 : W1.cell? ⟨b2, 0, none⟩ = some (.int .i64 (op)) := M2.out.cellat b2 0 rfl
  have i1 : W1.cell? ⟨b2, 1, none⟩ = some (.int .i64 a) := M2.out.cellat b2 1 rfl
  have i4 : W1.cell? ⟨b2, 4, none⟩ = some (.int .i64 n) := M2.out.cellat b2 4 rfl
  have ol : W1.cell? ⟨b0, 0, none⟩ = some (.int .i64 C.pc) := M2.out.cellat b0 0 rfl
  have lv : W1.frozen? ⟨b0, 0, none⟩ = false := M2.out.liveat b0 0
  have ra : W1.cell? ⟨b0, 2 + a, none⟩ = some (.int .i64 (C.r a)) := M2.out.cellat b0 (2 + a) (ctx_reg _ ha)
  have na0 : (0 : Int) ≤ (a : Int) := by omega
  have na1 : (a : Int) < 16 := by omega
  have q13 : (op == 13) = false := beq_eq_false_iff_ne.2 h13
  have q14 : (op == 14) = false := beq_eq_false_iff_ne.2 h14
  have q15 : (op == 15) = false := beq_eq_false_iff_ne.2 h15
  have q16 : (op == 16) = false := beq_eq_false_iff_ne.2 h16
  have q17 : (op == 17) = false := beq_eq_false_iff_ne.2 h17
  have q18 : (op == 18) = false := beq_eq_false_iff_ne.2 h18
  have HE : Hid (R = (C, ev0, false, L)) := Lib.hid (by rw [← HR.out]; unfold jumpedS; simp only []; rw [if_neg h13, if_neg h14, if_neg h15, if_neg h16, if_neg h17, if_neg h18])
  clear HR HC h13 h14 h15 h16 h17 h18
  go_wp2_with fail
  have N0 := Lib.hid (M2.out.stay below_drw)
  have HS0 : (fun X => Blk X b0 37 C.arr ∧ Blk X b5 40 #[.int .i64 0, .int .i64 0, .int .i64 0, .int .i64 0, .int .i64 0]) W1.drew := ⟨N0.out.getc b0, N0.out.getc b5⟩
  refine wp_region_noPanic ?_
  refine wp_region_held_drew (S := fun X => Blk X b0 37 C.arr ∧ Blk X b5 40 #[.int .i64 0, .int .i64 0, .int .i64 0, .int .i64 0, .int .i64 0]) (by kernel_rfl) HS0 ?_
  clear HS0
  intro hS
  refine wpAnyH_take (i := 0) rfl (by kernel_rfl) (by kernel_rfl) (by kernel_rfl) (fun _ _ _ h => h) (yields_load_row rfl 37 _ rfl b0 (by kernel_rfl) 37 C.arr _ (fun w h => h.1) Try.underlying37 rfl (by kernel_rfl)) hS ?_
  refine wpAnyH_take (i := 1) rfl (by kernel_rfl) (by kernel_rfl) (by kernel_rfl) (fun _ _ _ h => h) (yields_load_row rfl 40 _ rfl b5 (by kernel_rfl) 40 #[.int .i64 0, .int .i64 0, .int .i64 0, .int .i64 0, .int .i64 0] _ (fun w h => h.2) Try.underlying40 rfl (by kernel_rfl)) hS ?_
  refine wpAnyH_all (rs := [2]) (by kernel_rfl) (by simp) ?_
  intro i hi
  obtain rfl : i = 2 := by simpa using hi
  have N0s1 := Lib.hid (N0.out.rowc b3 C.arr)
  refine wpOp_store_row rfl rfl 37 _ _ rfl b3 C.arr (by kernel_rfl) (by kernel_rfl) 37 #[.int .i64 0, .int .i64 0, .int .i64 0, .int .i64 0, .int .i64 0, .int .i64 0, .int .i64 0, .int .i64 0, .int .i64 0, .int .i64 0, .int .i64 0, .int .i64 0, .int .i64 0, .int .i64 0, .int .i64 0, .int .i64 0, .int .i64 0, .int .i64 0] (N0.out.getc b3) (by kernel_rfl) rfl (by kernel_rfl) ?_
  have hS1 : (fun X => Blk X b0 37 C.arr ∧ Blk X b5 40 #[.int .i64 0, .int .i64 0, .int .i64 0, .int .i64 0, .int .i64 0]) _ := ⟨N0s1.out.getc b0, N0s1.out.getc b5⟩
  refine ⟨hS1, ?_⟩
  refine wpAnyH_all (rs := [3]) (by kernel_rfl) (by simp) ?_
  intro i hi
  obtain rfl : i = 3 := by simpa using hi
  have N0s2 := Lib.hid (N0s1.out.rowc b4 #[.int .i64 0, .int .i64 0, .int .i64 0, .int .i64 0, .int .i64 0])
  refine wpOp_store_row rfl rfl 40 _ _ rfl b4 #[.int .i64 0, .int .i64 0, .int .i64 0, .int .i64 0, .int .i64 0] (by kernel_rfl) (by kernel_rfl) 40 #[.int .i64 0, .int .i64 0, .int .i64 0, .int .i64 0, .int .i64 0] (N0s1.out.getc b4) (by kernel_rfl) rfl (by kernel_rfl) ?_
  have hS2 : (fun X => Blk X b0 37 C.arr ∧ Blk X b5 40 #[.int .i64 0, .int .i64 0, .int .i64 0, .int .i64 0, .int .i64 0]) _ := ⟨N0s2.out.getc b0, N0s2.out.getc b5⟩
  refine ⟨hS2, ?_⟩
  refine wpAnyH_take (i := 4) (v := .bool false) rfl (by kernel_rfl) (by kernel_rfl) (by kernel_rfl) (fun _ _ _ h => h) (yields_pure rfl (fun w => by kernel_rfl)) hS2 ?_
  refine wpAnyH_done (by kernel_rfl) ?_ _
  refine NoPanic.normal ?_
  go_wp2
  try simp only [Exit.inBlock, Exit.then]
  refine bodyPost_ret (results_cell3_row (p := 8) (u := 9) (q := 10) (ty := 37) (uy := 40) rfl _ _ b3 b4 37 40 C.arr #[.int .i64 0, .int .i64 0, .int .i64 0, .int .i64 0, .int .i64 0] _ _ (by kernel_rfl) (N0s2.out.getc b3) Try.underlying37 rfl (by kernel_rfl) (by kernel_rfl) (N0s2.out.getc b4) Try.underlying40 rfl (by kernel_rfl) (.bool false) (by kernel_rfl)) rfl ?_
  exact ⟨by rw [HE.out]; first | done | rfl, by rw [HE.out]; exact N0s2.out.back (Rf c L) Y⟩
set_option maxRecDepth 100000 in
set_option maxHeartbeats 4000000 in
theorem jumped_18 [hY : Fr Y] (h : Has B w wr (Star (Rf c L) Y)) (C D : Ctx) (hC : CtxOk C) {a b cc : Nat} (ha : a < 16) (n : Int) : Calls Try.prog 36 #[.agg C.arr, .agg D.arr, .pointer (some ⟨c, 0, none⟩), .agg (insA ⟨18, a, b, cc, n⟩)] wr (JumpE B w c (jumpedS C D L ⟨18, a, b, cc, n⟩) Y) := by
  obtain ⟨R, hR⟩ : ∃ R, jumpedS C D L ⟨18, a, b, cc, n⟩ = R := ⟨_, rfl⟩
  rw [hR]
  have HR := Lib.hid hR
  have HC := Lib.hid hC
  clear hR hC
  unfold Ctx.arr insA
  have M0 := Lib.hid (((((h.newcel 37 #[.int .i64 C.pc, .int .i64 C.tp, .int .i64 (C.r 0), .int .i64 (C.r 1), .int .i64 (C.r 2), .int .i64 (C.r 3), .int .i64 (C.r 4), .int .i64 (C.r 5), .int .i64 (C.r 6), .int .i64 (C.r 7), .int .i64 (C.r 8), .int .i64 (C.r 9), .int .i64 (C.r 10), .int .i64 (C.r 11), .int .i64 (C.r 12), .int .i64 (C.r 13), .int .i64 (C.r 14), .int .i64 (C.r 15)]).newcel 37 #[.int .i64 D.pc, .int .i64 D.tp, .int .i64 (D.r 0), .int .i64 (D.r 1), .int .i64 (D.r 2), .int .i64 (D.r 3), .int .i64 (D.r 4), .int .i64 (D.r 5), .int .i64 (D.r 6), .int .i64 (D.r 7), .int .i64 (D.r 8), .int .i64 (D.r 9), .int .i64 (D.r 10), .int .i64 (D.r 11), .int .i64 (D.r 12), .int .i64 (D.r 13), .int .i64 (D.r 14), .int .i64 (D.r 15)]).newcel 30 #[.int .i64 18, .int .i64 a, .int .i64 b, .int .i64 cc, .int .i64 n]).newcel 37 #[.int .i64 0, .int .i64 0, .int .i64 0, .int .i64 0, .int .i64 0, .int .i64 0, .int .i64 0, .int .i64 0, .int .i64 0, .int .i64 0, .int .i64 0, .int .i64 0, .int .i64 0, .int .i64 0, .int .i64 0, .int .i64 0, .int .i64 0, .int .i64 0]).newcel 40 #[.int .i64 0, .int .i64 0, .int .i64 0, .int .i64 0, .int .i64 0])
  go_enter Try.func36, Try.ntmps36
  go_upto_region 1 with (fail)
  have e1 : (wr.alloc (.cells #[.int .i64 C.pc, .int .i64 C.tp, .int .i64 (C.r 0), .int .i64 (C.r 1), .int .i64 (C.r 2), .int .i64 (C.r 3), .int .i64 (C.r 4), .int .i64 (C.r 5), .int .i64 (C.r 6), .int .i64 (C.r 7), .int .i64 (C.r 8), .int .i64 (C.r 9), .int .i64 (C.r 10), .int .i64 (C.r 11), .int .i64 (C.r 12), .int .i64 (C.r 13), .int .i64 (C.r 14), .int .i64 (C.r 15)] 37)).heap.size = wr.heap.size + 1 := by simp
  have e2 : ((wr.alloc (.cells #[.int .i64 C.pc, .int .i64 C.tp, .int .i64 (C.r 0), .int .i64 (C.r 1), .int .i64 (C.r 2), .int .i64 (C.r 3), .int .i64 (C.r 4), .int .i64 (C.r 5), .int .i64 (C.r 6), .int .i64 (C.r 7), .int .i64 (C.r 8), .int .i64 (C.r 9), .int .i64 (C.r 10), .int .i64 (C.r 11), .int .i64 (C.r 12), .int .i64 (C.r 13), .int .i64 (C.r 14), .int .i64 (C.r 15)] 37)).alloc (.cells #[.int .i64 D.pc, .int .i64 D.tp, .int .i64 (D.r 0), .int .i64 (D.r 1), .int .i64 (D.r 2), .int .i64 (D.r 3), .int .i64 (D.r 4), .int .i64 (D.r 5), .int .i64 (D.r 6), .int .i64 (D.r 7), .int .i64 (D.r 8), .int .i64 (D.r 9), .int .i64 (D.r 10), .int .i64 (D.r 11), .int .i64 (D.r 12), .int .i64 (D.r 13), .int .i64 (D.r 14), .int .i64 (D.r 15)] 37)).heap.size = wr.heap.size + 1 + 1 := by simp
  have e3 : (((wr.alloc (.cells #[.int .i64 C.pc, .int .i64 C.tp, .int .i64 (C.r 0), .int .i64 (C.r 1), .int .i64 (C.r 2), .int .i64 (C.r 3), .int .i64 (C.r 4), .int .i64 (C.r 5), .int .i64 (C.r 6), .int .i64 (C.r 7), .int .i64 (C.r 8), .int .i64 (C.r 9), .int .i64 (C.r 10), .int .i64 (C.r 11), .int .i64 (C.r 12), .int .i64 (C.r 13), .int .i64 (C.r 14), .int .i64 (C.r 15)] 37)).alloc (.cells #[.int .i64 D.pc, .int .i64 D.tp, .int .i64 (D.r 0), .int .i64 (D.r 1), .int .i64 (D.r 2), .int .i64 (D.r 3), .int .i64 (D.r 4), .int .i64 (D.r 5), .int .i64 (D.r 6), .int .i64 (D.r 7), .int .i64 (D.r 8), .int .i64 (D.r 9), .int .i64 (D.r 10), .int .i64 (D.r 11), .int .i64 (D.r 12), .int .i64 (D.r 13), .int .i64 (D.r 14), .int .i64 (D.r 15)] 37)).alloc (.cells #[.int .i64 18, .int .i64 a, .int .i64 b, .int .i64 cc, .int .i64 n] 30)).heap.size = wr.heap.size + 1 + 1 + 1 := by simp
  have e4 : ((((wr.alloc (.cells #[.int .i64 C.pc, .int .i64 C.tp, .int .i64 (C.r 0), .int .i64 (C.r 1), .int .i64 (C.r 2), .int .i64 (C.r 3), .int .i64 (C.r 4), .int .i64 (C.r 5), .int .i64 (C.r 6), .int .i64 (C.r 7), .int .i64 (C.r 8), .int .i64 (C.r 9), .int .i64 (C.r 10), .int .i64 (C.r 11), .int .i64 (C.r 12), .int .i64 (C.r 13), .int .i64 (C.r 14), .int .i64 (C.r 15)] 37)).alloc (.cells #[.int .i64 D.pc, .int .i64 D.tp, .int .i64 (D.r 0), .int .i64 (D.r 1), .int .i64 (D.r 2), .int .i64 (D.r 3), .int .i64 (D.r 4), .int .i64 (D.r 5), .int .i64 (D.r 6), .int .i64 (D.r 7), .int .i64 (D.r 8), .int .i64 (D.r 9), .int .i64 (D.r 10), .int .i64 (D.r 11), .int .i64 (D.r 12), .int .i64 (D.r 13), .int .i64 (D.r 14), .int .i64 (D.r 15)] 37)).alloc (.cells #[.int .i64 18, .int .i64 a, .int .i64 b, .int .i64 cc, .int .i64 n] 30)).alloc (.cells #[.int .i64 0, .int .i64 0, .int .i64 0, .int .i64 0, .int .i64 0, .int .i64 0, .int .i64 0, .int .i64 0, .int .i64 0, .int .i64 0, .int .i64 0, .int .i64 0, .int .i64 0, .int .i64 0, .int .i64 0, .int .i64 0, .int .i64 0, .int .i64 0] 37)).heap.size = wr.heap.size + 1 + 1 + 1 + 1 := by simp
  rw [e4, e3, e2, e1] at M0
  obtain ⟨W, hW⟩ : ∃ W, (((((wr.alloc (.cells #[.int .i64 C.pc, .int .i64 C.tp, .int .i64 (C.r 0), .int .i64 (C.r 1), .int .i64 (C.r 2), .int .i64 (C.r 3), .int .i64 (C.r 4), .int .i64 (C.r 5), .int .i64 (C.r 6), .int .i64 (C.r 7), .int .i64 (C.r 8), .int .i64 (C.r 9), .int .i64 (C.r 10), .int .i64 (C.r 11), .int .i64 (C.r 12), .int .i64 (C.r 13), .int .i64 (C.r 14), .int .i64 (C.r 15)] 37)).alloc (.cells #[.int .i64 D.pc, .int .i64 D.tp, .int .i64 (D.r 0), .int .i64 (D.r 1), .int .i64 (D.r 2), .int .i64 (D.r 3), .int .i64 (D.r 4), .int .i64 (D.r 5), .int .i64 (D.r 6), .int .i64 (D.r 7), .int .i64 (D.r 8), .int .i64 (D.r 9), .int .i64 (D.r 10), .int .i64 (D.r 11), .int .i64 (D.r 12), .int .i64 (D.r 13), .int .i64 (D.r 14), .int .i64 (D.r 15)] 37)).alloc (.cells #[.int .i64 18, .int .i64 a, .int .i64 b, .int .i64 cc, .int .i64 n] 30)).alloc (.cells #[.int .i64 0, .int .i64 0, .int .i64 0, .int .i64 0, .int .i64 0, .int .i64 0, .int .i64 0, .int .i64 0, .int .i64 0, .int .i64 0, .int .i64 0, .int .i64 0, .int .i64 0, .int .i64 0, .int .i64 0, .int .i64 0, .int .i64 0, .int .i64 0] 37)).alloc (.cells #[.int .i64 0, .int .i64 0, .int .i64 0, .int .i64 0, .int .i64 0] 40)) = W := ⟨_, rfl⟩
  rw [hW] at M0 ⊢
  clear e1 e2 e3 e4 hW
  generalize wr.heap.size + 1 + 1 + 1 + 1 = b4 at M0 ⊢
  generalize wr.heap.size + 1 + 1 + 1 = b3 at M0 ⊢
  generalize wr.heap.size + 1 + 1 = b2 at M0 ⊢
  generalize wr.heap.size + 1 = b1 at M0 ⊢
  generalize wr.heap.size = b0 at M0 ⊢
  have M1 : Hid (Has B w W (Star (Cel b4 40 #[.int .i64 0, .int .i64 0, .int .i64 0, .int .i64 0, .int .i64 0]) (Star (Cel b3 37 #[.int .i64 0, .int .i64 0, .int .i64 0, .int .i64 0, .int .i64 0, .int .i64 0, .int .i64 0, .int .i64 0, .int .i64 0, .int .i64 0, .int .i64 0, .int .i64 0, .int .i64 0, .int .i64 0, .int .i64 0, .int .i64 0, .int .i64 0, .int .i64 0]) (Star (Cel b2 30 (insA ⟨18, a, b, cc, n⟩)) (Star (Cel b1 37 D.arr) (Star (Cel b0 37 C.arr) (Star (Rf c L) Y))))))) := M0
  clear M0
  clear h
  have M1a := Lib.hid (M1.out.newcel 40 #[.int .i64 0, .int .i64 0, .int .i64 0, .int .i64 0, .int .i64 0])
  have M1b := Lib.hid (M1a.out.rowc W.heap.size #[.int .i64 0, .int .i64 0, .int .i64 0, .int .i64 0, .int .i64 0])
  go_upto_region 2 with (first | (refine wpList_store_row rfl 40 _ _ rfl W.heap.size #[.int .i64 0, .int .i64 0, .int .i64 0, .int .i64 0, .int .i64 0] rfl rfl 40 #[.int .i64 0, .int .i64 0, .int .i64 0, .int .i64 0, .int .i64 0] (M1a.out.getc W.heap.size) (by kernel_rfl) rfl (by kernel_rfl) ?_))
  obtain ⟨W1, hW1⟩ : ∃ W1, (W.alloc (.cells #[.int .i64 0, .int .i64 0, .int .i64 0, .int .i64 0, .int .i64 0] 40)).setRow W.heap.size #[.int .i64 0, .int .i64 0, .int .i64 0, .int .i64 0, .int .i64 0] = W1 := ⟨_, rfl⟩
  have M2 := M1b
  rw [hW1] at M2 ⊢
  clear hW1 M1a M1b M1
  generalize W.heap.size = b5 at M2 ⊢
  have i0 : W1.cell? ⟨b2, 0, none⟩ = some (.int .i64 (18)) := M2.out.cellat b2 0 rfl
  have i1 : W1.cell? ⟨b2, 1, none⟩ = some (.int .i64 a) := M2.out.cellat b2 1 rfl
  have i4 : W1.cell? ⟨b2, 4, none⟩ = some (.int .i64 n) := M2.out.cellat b2 4 rfl
  have ol : W1.cell? ⟨b0, 0, none⟩ = some (.int .i64 C.pc) := M2.out.cellat b0 0 rfl
  have lv : W1.frozen? ⟨b0, 0, none⟩ = false := M2.out.liveat b0 0
  have ra : W1.cell? ⟨b0, 2 + a, none⟩ = some (.int .i64 (C.r a)) := M2.out.cellat b0 (2 + a) (ctx_reg _ ha)
  have na0 : (0 : Int) ≤ (a : Int) := by omega
  have na1 : (a : Int) < 16 := by omega
  have C1 := Lib.hid (own_rword (M2.out.pick (Rf c L)) (C.r 15) (HC.out.r 15) 1 (by decide))
  have h15 : W1.cell? ⟨b0, 17, none⟩ = some (.int .i64 (C.r 15)) := M2.out.cellat b0 17 rfl
  obtain ⟨v, hv⟩ : ∃ v, (wordAt L (C.r 15) 1).1 = v := ⟨_, rfl⟩
  obtain ⟨E, hE⟩ : ∃ E, (wordAt L (C.r 15) 1).2 = E := ⟨_, rfl⟩
  have HG := Lib.hid (And.intro hv hE)
  rw [hv, hE] at C1
  clear hv hE
  have HR2 : Hid (R = if E = 0 then ({ C with pc := v, r := upd C.r 15 (wrap64 (C.r 15 + 8)) }, ev0, true, L) else (D, trapV E, true, L)) := Lib.hid (by rw [← HR.out, ← HG.out.1, ← HG.out.2]; rfl)
  clear HR HC HG
  by_cases hE0 : E = 0
  · subst hE0
    have HE : Hid (R = ({ C with pc := v, r := upd C.r 15 (wrap64 (C.r 15 + 8)) }, ev0, true, L)) := HR2
    clear HR2
    go_wp2_with fail
    refine (C1.out).mono ?_
    rintro e w2 ⟨rfl, m2⟩
    have M3 := Lib.hid m2
    clear m2 C1 M2 i0 i1 i4 ol lv ra h15
    have lv : w2.frozen? ⟨b0, 17, none⟩ = false := M3.out.liveat b0 17
    have ol : w2.cell? ⟨b0, 17, none⟩ = some (.int .i64 (C.r 15)) := M3.out.cellat b0 17 rfl
    have lv0 : w2.frozen? ⟨b0, 0, none⟩ = false := M3.out.liveat b0 0
    have ol0 : w2.cell? ⟨b0, 0, none⟩ = some (.int .i64 C.pc) := M3.out.cellat b0 0 rfl
    have M4a := Lib.hid (M3.out.cellc b0 0 (.int .i64 v) (Ctx.arr { C with pc := v }) rfl)
    have M4b := Lib.hid (M4a.out.cellc b0 17 (.int .i64 (wrap64 (C.r 15 + 8))) (Ctx.arr { C with pc := v, r := upd C.r 15 (wrap64 (C.r 15 + 8)) }) rfl)
    clear M4a
    obtain ⟨C2, hC2⟩ : ∃ C2 : Ctx, { C with pc := v, r := upd C.r 15 (wrap64 (C.r 15 + 8)) } = C2 := ⟨_, rfl⟩
    rw [hC2] at M4b HE
    clear hC2
    go_wp2_with fail
    obtain ⟨W2, hW2⟩ : ∃ W2, (w2.setCell ⟨b0, 0, none⟩ (.int .i64 v)).setCell ⟨b0, 17, none⟩ (.int .i64 (wrap64 (C.r 15 + 8))) = W2 := ⟨_, rfl⟩
    have M4 := M4b
    rw [hW2] at M4 ⊢
    clear hW2 M4b
    have N0 := Lib.hid (M4.out.stay below_drw)
    have HS0 : (fun X => Blk X b0 37 C2.arr ∧ Blk X b5 40 #[.int .i64 0, .int .i64 0, .int .i64 0, .int .i64 0, .int .i64 0]) W2.drew := ⟨N0.out.getc b0, N0.out.getc b5⟩
    refine wp_region_noPanic ?_
    refine wp_region_held_drew (S := fun X => Blk X b0 37 C2.arr ∧ Blk X b5 40 #[.int .i64 0, .int .i64 0, .int .i64 0, .int .i64 0, .int .i64 0]) (by kernel_rfl) HS0 ?_
    clear HS0
    intro hS
    refine wpAnyH_take (i := 0) rfl (by kernel_rfl) (by kernel_rfl) (by kernel_rfl) (fun _ _ _ h => h) (yields_load_row rfl 37 _ rfl b0 (by kernel_rfl) 37 C2.arr _ (fun w h => h.1) Try.underlying37 rfl (by kernel_rfl)) hS ?_
    refine wpAnyH_take (i := 1) rfl (by kernel_rfl) (by kernel_rfl) (by kernel_rfl) (fun _ _ _ h => h) (yields_load_row rfl 40 _ rfl b5 (by kernel_rfl) 40 #[.int .i64 0, .int .i64 0, .int .i64 0, .int .i64 0, .int .i64 0] _ (fun w h => h.2) Try.underlying40 rfl (by kernel_rfl)) hS ?_
    refine wpAnyH_all (rs := [2]) (by kernel_rfl) (by simp) ?_
    intro i hi
    obtain rfl : i = 2 := by simpa using hi
    have N0s1 := Lib.hid (N0.out.rowc b3 C2.arr)
    refine wpOp_store_row rfl rfl 37 _ _ rfl b3 C2.arr (by kernel_rfl) (by kernel_rfl) 37 #[.int .i64 0, .int .i64 0, .int .i64 0, .int .i64 0, .int .i64 0, .int .i64 0, .int .i64 0, .int .i64 0, .int .i64 0, .int .i64 0, .int .i64 0, .int .i64 0, .int .i64 0, .int .i64 0, .int .i64 0, .int .i64 0, .int .i64 0, .int .i64 0] (N0.out.getc b3) (by kernel_rfl) rfl (by kernel_rfl) ?_
    have hS1 : (fun X => Blk X b0 37 C2.arr ∧ Blk X b5 40 #[.int .i64 0, .int .i64 0, .int .i64 0, .int .i64 0, .int .i64 0]) _ := ⟨N0s1.out.getc b0, N0s1.out.getc b5⟩
    refine ⟨hS1, ?_⟩
    refine wpAnyH_all (rs := [3]) (by kernel_rfl) (by simp) ?_
    intro i hi
    obtain rfl : i = 3 := by simpa using hi
    have N0s2 := Lib.hid (N0s1.out.rowc b4 #[.int .i64 0, .int .i64 0, .int .i64 0, .int .i64 0, .int .i64 0])
    refine wpOp_store_row rfl rfl 40 _ _ rfl b4 #[.int .i64 0, .int .i64 0, .int .i64 0, .int .i64 0, .int .i64 0] (by kernel_rfl) (by kernel_rfl) 40 #[.int .i64 0, .int .i64 0, .int .i64 0, .int .i64 0, .int .i64 0] (N0s1.out.getc b4) (by kernel_rfl) rfl (by kernel_rfl) ?_
    have hS2 : (fun X => Blk X b0 37 C2.arr ∧ Blk X b5 40 #[.int .i64 0, .int .i64 0, .int .i64 0, .int .i64 0, .int .i64 0]) _ := ⟨N0s2.out.getc b0, N0s2.out.getc b5⟩
    refine ⟨hS2, ?_⟩
    refine wpAnyH_take (i := 4) (v := .bool true) rfl (by kernel_rfl) (by kernel_rfl) (by kernel_rfl) (fun _ _ _ h => h) (yields_pure rfl (fun w => by kernel_rfl)) hS2 ?_
    refine wpAnyH_done (by kernel_rfl) ?_ _
    refine NoPanic.normal ?_
    go_wp2
    try simp only [Exit.inBlock, Exit.then]
    refine bodyPost_ret (results_cell3_row (p := 8) (u := 9) (q := 10) (ty := 37) (uy := 40) rfl _ _ b3 b4 37 40 C2.arr #[.int .i64 0, .int .i64 0, .int .i64 0, .int .i64 0, .int .i64 0] _ _ (by kernel_rfl) (N0s2.out.getc b3) Try.underlying37 rfl (by kernel_rfl) (by kernel_rfl) (N0s2.out.getc b4) Try.underlying40 rfl (by kernel_rfl) (.bool true) (by kernel_rfl)) rfl ?_
    exact ⟨by rw [HE.out]; first | done | rfl, by rw [HE.out]; exact N0s2.out.back (Rf c L) Y⟩
  · have hbe : (E != 0) = true := bne_iff_ne.2 hE0
    have HE : Hid (R = (D, trapV E, true, L)) := Lib.hid (by rw [HR2.out, if_neg hE0])
    clear HR2
    go_wp2_with fail
    refine (C1.out).mono ?_
    rintro e w2 ⟨rfl, m2⟩
    have M3 := Lib.hid m2
    clear m2 C1 M2 i0 i1 i4 ol lv ra h15
    have C2 := Lib.hid (trapped_any D E w2)
    go_wp2_with (first | (refine wpList_load_rowW rfl 37 _ rfl b1 rfl D.arr _ (M3.out.getc b1) Try.underlying37 rfl (by kernel_rfl) ?_))
    refine (C2.out).mono ?_
    rintro e w3 ⟨rfl, hb3⟩
    have m := M3.out.stay hb3
    clear M3 hb3
    have es : (w3.alloc (.cells #[.int .i64 0, .int .i64 0, .int .i64 0, .int .i64 0, .int .i64 0, .int .i64 0, .int .i64 0, .int .i64 0, .int .i64 0, .int .i64 0, .int .i64 0, .int .i64 0, .int .i64 0, .int .i64 0, .int .i64 0, .int .i64 0, .int .i64 0, .int .i64 0] 37)).heap.size = w3.heap.size + 1 := by simp
    have Na := Lib.hid ((m.newcel 37 #[.int .i64 0, .int .i64 0, .int .i64 0, .int .i64 0, .int .i64 0, .int .i64 0, .int .i64 0, .int .i64 0, .int .i64 0, .int .i64 0, .int .i64 0, .int .i64 0, .int .i64 0, .int .i64 0, .int .i64 0, .int .i64 0, .int .i64 0, .int .i64 0]).newcel 40 #[.int .i64 0, .int .i64 0, .int .i64 0, .int .i64 0, .int .i64 0])
    rw [es] at Na
    have Nb := Lib.hid (Na.out.rowc w3.heap.size D.arr)
    have Nc := Lib.hid (Nb.out.rowc (w3.heap.size + 1) (trapV E).arr)
    go_wp2_with (first | (refine wpList_store_row rfl 37 _ _ rfl w3.heap.size D.arr rfl rfl 37 #[.int .i64 0, .int .i64 0, .int .i64 0, .int .i64 0, .int .i64 0, .int .i64 0, .int .i64 0, .int .i64 0, .int .i64 0, .int .i64 0, .int .i64 0, .int .i64 0, .int .i64 0, .int .i64 0, .int .i64 0, .int .i64 0, .int .i64 0, .int .i64 0] (Na.out.getc w3.heap.size) (by kernel_rfl) rfl (by kernel_rfl) ?_) | (refine wpList_store_row rfl 40 _ _ rfl (w3.heap.size + 1) (trapV E).arr rfl rfl 40 #[.int .i64 0, .int .i64 0, .int .i64 0, .int .i64 0, .int .i64 0] (Nb.out.getc (w3.heap.size + 1)) (by kernel_rfl) rfl (by kernel_rfl) ?_))
    obtain ⟨W4, hW⟩ : ∃ W4, (((w3.alloc (.cells #[.int .i64 0, .int .i64 0, .int .i64 0, .int .i64 0, .int .i64 0, .int .i64 0, .int .i64 0, .int .i64 0, .int .i64 0, .int .i64 0, .int .i64 0, .int .i64 0, .int .i64 0, .int .i64 0, .int .i64 0, .int .i64 0, .int .i64 0, .int .i64 0] 37)).alloc (.cells #[.int .i64 0, .int .i64 0, .int .i64 0, .int .i64 0, .int .i64 0] 40)).setRow w3.heap.size D.arr).setRow (w3.heap.size + 1) (trapV E).arr = W4 := ⟨_, rfl⟩
    have M4 := Nc
    rw [hW] at M4 ⊢
    clear hW es Na Nb Nc m C2
    generalize w3.heap.size + 1 = e4 at M4 ⊢
    generalize w3.heap.size = x4 at M4 ⊢
    have N0 := Lib.hid (M4.out.stay below_drw)
    have HS0 : (fun X => Blk X x4 37 D.arr ∧ Blk X e4 40 (trapV E).arr) W4.drew := ⟨N0.out.getc x4, N0.out.getc e4⟩
    refine wp_region_noPanic ?_
    refine wp_region_held_drew (S := fun X => Blk X x4 37 D.arr ∧ Blk X e4 40 (trapV E).arr) (by kernel_rfl) HS0 ?_
    clear HS0
    intro hS
    refine wpAnyH_take (i := 0) rfl (by kernel_rfl) (by kernel_rfl) (by kernel_rfl) (fun _ _ _ h => h) (yields_load_row rfl 37 _ rfl x4 (by kernel_rfl) 37 D.arr _ (fun w h => h.1) Try.underlying37 rfl (by kernel_rfl)) hS ?_
    refine wpAnyH_take (i := 1) rfl (by kernel_rfl) (by kernel_rfl) (by kernel_rfl) (fun _ _ _ h => h) (yields_load_row rfl 40 _ rfl e4 (by kernel_rfl) 40 (trapV E).arr _ (fun w h => h.2) Try.underlying40 rfl (by kernel_rfl)) hS ?_
    refine wpAnyH_all (rs := [2]) (by kernel_rfl) (by simp) ?_
    intro i hi
    obtain rfl : i = 2 := by simpa using hi
    have N0s1 := Lib.hid (N0.out.rowc b3 D.arr)
    refine wpOp_store_row rfl rfl 37 _ _ rfl b3 D.arr (by kernel_rfl) (by kernel_rfl) 37 #[.int .i64 0, .int .i64 0, .int .i64 0, .int .i64 0, .int .i64 0, .int .i64 0, .int .i64 0, .int .i64 0, .int .i64 0, .int .i64 0, .int .i64 0, .int .i64 0, .int .i64 0, .int .i64 0, .int .i64 0, .int .i64 0, .int .i64 0, .int .i64 0] (N0.out.getc b3) (by kernel_rfl) rfl (by kernel_rfl) ?_
    have hS1 : (fun X => Blk X x4 37 D.arr ∧ Blk X e4 40 (trapV E).arr) _ := ⟨N0s1.out.getc x4, N0s1.out.getc e4⟩
    refine ⟨hS1, ?_⟩
    refine wpAnyH_all (rs := [3]) (by kernel_rfl) (by simp) ?_
    intro i hi
    obtain rfl : i = 3 := by simpa using hi
    have N0s2 := Lib.hid (N0s1.out.rowc b4 (trapV E).arr)
    refine wpOp_store_row rfl rfl 40 _ _ rfl b4 (trapV E).arr (by kernel_rfl) (by kernel_rfl) 40 #[.int .i64 0, .int .i64 0, .int .i64 0, .int .i64 0, .int .i64 0] (N0s1.out.getc b4) (by kernel_rfl) rfl (by kernel_rfl) ?_
    have hS2 : (fun X => Blk X x4 37 D.arr ∧ Blk X e4 40 (trapV E).arr) _ := ⟨N0s2.out.getc x4, N0s2.out.getc e4⟩
    refine ⟨hS2, ?_⟩
    refine wpAnyH_take (i := 4) (v := .bool true) rfl (by kernel_rfl) (by kernel_rfl) (by kernel_rfl) (fun _ _ _ h => h) (yields_pure rfl (fun w => by kernel_rfl)) hS2 ?_
    refine wpAnyH_done (by kernel_rfl) ?_ _
    refine NoPanic.normal ?_
    go_wp2
    try simp only [Exit.inBlock, Exit.then]
    refine bodyPost_ret (results_cell3_row (p := 8) (u := 9) (q := 10) (ty := 37) (uy := 40) rfl _ _ b3 b4 37 40 D.arr (trapV E).arr _ _ (by kernel_rfl) (N0s2.out.getc b3) Try.underlying37 rfl (by kernel_rfl) (by kernel_rfl) (N0s2.out.getc b4) Try.underlying40 rfl (by kernel_rfl) (.bool true) (by kernel_rfl)) rfl ?_
    exact ⟨by rw [HE.out]; first | done | rfl, by rw [HE.out]; exact N0s2.out.back (Rf c L) Y⟩
set_option maxRecDepth 100000 in
set_option maxHeartbeats 4000000 in
theorem jumped_15 [hY : Fr Y] (h : Has B w wr (Star (Rf c L) Y)) (C D : Ctx) (hC : CtxOk C) {a b cc : Nat} (ha : a < 16) (n : Int) : Calls Try.prog 36 #[.agg C.arr, .agg D.arr, .pointer (some ⟨c, 0, none⟩), .agg (insA ⟨15, a, b, cc, n⟩)] wr (JumpE B w c (jumpedS C D L ⟨15, a, b, cc, n⟩) Y) := by
  obtain ⟨R, hR⟩ : ∃ R, jumpedS C D L ⟨15, a, b, cc, n⟩ = R := ⟨_, rfl⟩
  rw [hR]
  have HR := Lib.hid hR
  have HC := Lib.hid hC
  clear hR hC
  unfold Ctx.arr insA
  have M0 := Lib.hid (((((h.newcel 37 #[.int .i64 C.pc, .int .i64 C.tp, .int .i64 (C.r 0), .int .i64 (C.r 1), .int .i64 (C.r 2), .int .i64 (C.r 3), .int .i64 (C.r 4), .int .i64 (C.r 5), .int .i64 (C.r 6), .int .i64 (C.r 7), .int .i64 (C.r 8), .int .i64 (C.r 9), .int .i64 (C.r 10), .int .i64 (C.r 11), .int .i64 (C.r 12), .int .i64 (C.r 13), .int .i64 (C.r 14), .int .i64 (C.r 15)]).newcel 37 #[.int .i64 D.pc, .int .i64 D.tp, .int .i64 (D.r 0), .int .i64 (D.r 1), .int .i64 (D.r 2), .int .i64 (D.r 3), .int .i64 (D.r 4), .int .i64 (D.r 5), .int .i64 (D.r 6), .int .i64 (D.r 7), .int .i64 (D.r 8), .int .i64 (D.r 9), .int .i64 (D.r 10), .int .i64 (D.r 11), .int .i64 (D.r 12), .int .i64 (D.r 13), .int .i64 (D.r 14), .int .i64 (D.r 15)]).newcel 30 #[.int .i64 15, .int .i64 a, .int .i64 b, .int .i64 cc, .int .i64 n]).newcel 37 #[.int .i64 0, .int .i64 0, .int .i64 0, .int .i64 0, .int .i64 0, .int .i64 0, .int .i64 0, .int .i64 0, .int .i64 0, .int .i64 0, .int .i64 0, .int .i64 0, .int .i64 0, .int .i64 0, .int .i64 0, .int .i64 0, .int .i64 0, .int .i64 0]).newcel 40 #[.int .i64 0, .int .i64 0, .int .i64 0, .int .i64 0, .int .i64 0])
  go_enter Try.func36, Try.ntmps36
  go_upto_region 1 with (fail)
  have e1 : (wr.alloc (.cells #[.int .i64 C.pc, .int .i64 C.tp, .int .i64 (C.r 0), .int .i64 (C.r 1), .int .i64 (C.r 2), .int .i64 (C.r 3), .int .i64 (C.r 4), .int .i64 (C.r 5), .int .i64 (C.r 6), .int .i64 (C.r 7), .int .i64 (C.r 8), .int .i64 (C.r 9), .int .i64 (C.r 10), .int .i64 (C.r 11), .int .i64 (C.r 12), .int .i64 (C.r 13), .int .i64 (C.r 14), .int .i64 (C.r 15)] 37)).heap.size = wr.heap.size + 1 := by simp
  have e2 : ((wr.alloc (.cells #[.int .i64 C.pc, .int .i64 C.tp, .int .i64 (C.r 0), .int .i64 (C.r 1), .int .i64 (C.r 2), .int .i64 (C.r 3), .int .i64 (C.r 4), .int .i64 (C.r 5), .int .i64 (C.r 6), .int .i64 (C.r 7), .int .i64 (C.r 8), .int .i64 (C.r 9), .int .i64 (C.r 10), .int .i64 (C.r 11), .int .i64 (C.r 12), .int .i64 (C.r 13), .int .i64 (C.r 14), .int .i64 (C.r 15)] 37)).alloc (.cells #[.int .i64 D.pc, .int .i64 D.tp, .int .i64 (D.r 0), .int .i64 (D.r 1), .int .i64 (D.r 2), .int .i64 (D.r 3), .int .i64 (D.r 4), .int .i64 (D.r 5), .int .i64 (D.r 6), .int .i64 (D.r 7), .int .i64 (D.r 8), .int .i64 (D.r 9), .int .i64 (D.r 10), .int .i64 (D.r 11), .int .i64 (D.r 12), .int .i64 (D.r 13), .int .i64 (D.r 14), .int .i64 (D.r 15)] 37)).heap.size = wr.heap.size + 1 + 1 := by simp
  have e3 : (((wr.alloc (.cells #[.int .i64 C.pc, .int .i64 C.tp, .int .i64 (C.r 0), .int .i64 (C.r 1), .int .i64 (C.r 2), .int .i64 (C.r 3), .int .i64 (C.r 4), .int .i64 (C.r 5), .int .i64 (C.r 6), .int .i64 (C.r 7), .int .i64 (C.r 8), .int .i64 (C.r 9), .int .i64 (C.r 10), .int .i64 (C.r 11), .int .i64 (C.r 12), .int .i64 (C.r 13), .int .i64 (C.r 14), .int .i64 (C.r 15)] 37)).alloc (.cells #[.int .i64 D.pc, .int .i64 D.tp, .int .i64 (D.r 0), .int .i64 (D.r 1), .int .i64 (D.r 2), .int .i64 (D.r 3), .int .i64 (D.r 4), .int .i64 (D.r 5), .int .i64 (D.r 6), .int .i64 (D.r 7), .int .i64 (D.r 8), .int .i64 (D.r 9), .int .i64 (D.r 10), .int .i64 (D.r 11), .int .i64 (D.r 12), .int .i64 (D.r 13), .int .i64 (D.r 14), .int .i64 (D.r 15)] 37)).alloc (.cells #[.int .i64 15, .int .i64 a, .int .i64 b, .int .i64 cc, .int .i64 n] 30)).heap.size = wr.heap.size + 1 + 1 + 1 := by simp
  have e4 : ((((wr.alloc (.cells #[.int .i64 C.pc, .int .i64 C.tp, .int .i64 (C.r 0), .int .i64 (C.r 1), .int .i64 (C.r 2), .int .i64 (C.r 3), .int .i64 (C.r 4), .int .i64 (C.r 5), .int .i64 (C.r 6), .int .i64 (C.r 7), .int .i64 (C.r 8), .int .i64 (C.r 9), .int .i64 (C.r 10), .int .i64 (C.r 11), .int .i64 (C.r 12), .int .i64 (C.r 13), .int .i64 (C.r 14), .int .i64 (C.r 15)] 37)).alloc (.cells #[.int .i64 D.pc, .int .i64 D.tp, .int .i64 (D.r 0), .int .i64 (D.r 1), .int .i64 (D.r 2), .int .i64 (D.r 3), .int .i64 (D.r 4), .int .i64 (D.r 5), .int .i64 (D.r 6), .int .i64 (D.r 7), .int .i64 (D.r 8), .int .i64 (D.r 9), .int .i64 (D.r 10), .int .i64 (D.r 11), .int .i64 (D.r 12), .int .i64 (D.r 13), .int .i64 (D.r 14), .int .i64 (D.r 15)] 37)).alloc (.cells #[.int .i64 15, .int .i64 a, .int .i64 b, .int .i64 cc, .int .i64 n] 30)).alloc (.cells #[.int .i64 0, .int .i64 0, .int .i64 0, .int .i64 0, .int .i64 0, .int .i64 0, .int .i64 0, .int .i64 0, .int .i64 0, .int .i64 0, .int .i64 0, .int .i64 0, .int .i64 0, .int .i64 0, .int .i64 0, .int .i64 0, .int .i64 0, .int .i64 0] 37)).heap.size = wr.heap.size + 1 + 1 + 1 + 1 := by simp
  rw [e4, e3, e2, e1] at M0
  obtain ⟨W, hW⟩ : ∃ W, (((((wr.alloc (.cells #[.int .i64 C.pc, .int .i64 C.tp, .int .i64 (C.r 0), .int .i64 (C.r 1), .int .i64 (C.r 2), .int .i64 (C.r 3), .int .i64 (C.r 4), .int .i64 (C.r 5), .int .i64 (C.r 6), .int .i64 (C.r 7), .int .i64 (C.r 8), .int .i64 (C.r 9), .int .i64 (C.r 10), .int .i64 (C.r 11), .int .i64 (C.r 12), .int .i64 (C.r 13), .int .i64 (C.r 14), .int .i64 (C.r 15)] 37)).alloc (.cells #[.int .i64 D.pc, .int .i64 D.tp, .int .i64 (D.r 0), .int .i64 (D.r 1), .int .i64 (D.r 2), .int .i64 (D.r 3), .int .i64 (D.r 4), .int .i64 (D.r 5), .int .i64 (D.r 6), .int .i64 (D.r 7), .int .i64 (D.r 8), .int .i64 (D.r 9), .int .i64 (D.r 10), .int .i64 (D.r 11), .int .i64 (D.r 12), .int .i64 (D.r 13), .int .i64 (D.r 14), .int .i64 (D.r 15)] 37)).alloc (.cells #[.int .i64 15, .int .i64 a, .int .i64 b, .int .i64 cc, .int .i64 n] 30)).alloc (.cells #[.int .i64 0, .int .i64 0, .int .i64 0, .int .i64 0, .int .i64 0, .int .i64 0, .int .i64 0, .int .i64 0, .int .i64 0, .int .i64 0, .int .i64 0, .int .i64 0, .int .i64 0, .int .i64 0, .int .i64 0, .int .i64 0, .int .i64 0, .int .i64 0] 37)).alloc (.cells #[.int .i64 0, .int .i64 0, .int .i64 0, .int .i64 0, .int .i64 0] 40)) = W := ⟨_, rfl⟩
  rw [hW] at M0 ⊢
  clear e1 e2 e3 e4 hW
  generalize wr.heap.size + 1 + 1 + 1 + 1 = b4 at M0 ⊢
  generalize wr.heap.size + 1 + 1 + 1 = b3 at M0 ⊢
  generalize wr.heap.size + 1 + 1 = b2 at M0 ⊢
  generalize wr.heap.size + 1 = b1 at M0 ⊢
  generalize wr.heap.size = b0 at M0 ⊢
  have M1 : Hid (Has B w W (Star (Cel b4 40 #[.int .i64 0, .int .i64 0, .int .i64 0, .int .i64 0, .int .i64 0]) (Star (Cel b3 37 #[.int .i64 0, .int .i64 0, .int .i64 0, .int .i64 0, .int .i64 0, .int .i64 0, .int .i64 0, .int .i64 0, .int .i64 0, .int .i64 0, .int .i64 0, .int .i64 0, .int .i64 0, .int .i64 0, .int .i64 0, .int .i64 0, .int .i64 0, .int .i64 0]) (Star (Cel b2 30 (insA ⟨15, a, b, cc, n⟩)) (Star (Cel b1 37 D.arr) (Star (Cel b0 37 C.arr) (Star (Rf c L) Y))))))) := M0
  clear M0
  clear h
  have M1a := Lib.hid (M1.out.newcel 40 #[.int .i64 0, .int .i64 0, .int .i64 0, .int .i64 0, .int .i64 0])
  have M1b := Lib.hid (M1a.out.rowc W.heap.size #[.int .i64 0, .int .i64 0, .int .i64 0, .int .i64 0, .int .i64 0])
  go_upto_region 2 with (first | (refine wpList_store_row rfl 40 _ _ rfl W.heap.size #[.int .i64 0, .int .i64 0, .int .i64 0, .int .i64 0, .int .i64 0] rfl rfl 40 #[.int .i64 0, .int .i64 0, .int .i64 0, .int .i64 0, .int .i64 0] (M1a.out.getc W.heap.size) (by kernel_rfl) rfl (by kernel_rfl) ?_))
  obtain ⟨W1, hW1⟩ : ∃ W1, (W.alloc (.cells #[.int .i64 0, .int .i64 0, .int .i64 0, .int .i64 0, .int .i64 0] 40)).setRow W.heap.size #[.int .i64 0, .int .i64 0, .int .i64 0, .int .i64 0, .int .i64 0] = W1 := ⟨_, rfl⟩
  have M2 := M1b
  rw [hW1] at M2 ⊢
  clear hW1 M1a M1b M1
  generalize W.heap.size = b5 at M2 ⊢
  have i0 : W1.cell? ⟨b2, 0, none⟩ = some (.int .i64 (15)) := M2.out.cellat b2 0 rfl
  have i1 : W1.cell? ⟨b2, 1, none⟩ = some (.int .i64 a) := M2.out.cellat b2 1 rfl
  have i4 : W1.cell? ⟨b2, 4, none⟩ = some (.int .i64 n) := M2.out.cellat b2 4 rfl
  have ol : W1.cell? ⟨b0, 0, none⟩ = some (.int .i64 C.pc) := M2.out.cellat b0 0 rfl
  have lv : W1.frozen? ⟨b0, 0, none⟩ = false := M2.out.liveat b0 0
  have ra : W1.cell? ⟨b0, 2 + a, none⟩ = some (.int .i64 (C.r a)) := M2.out.cellat b0 (2 + a) (ctx_reg _ ha)
  have na0 : (0 : Int) ≤ (a : Int) := by omega
  have na1 : (a : Int) < 16 := by omega
  have C1 := Lib.hid (called_own (M2.out.pick (Rf c L)) C D (wrap64 (C.pc + n)))
  obtain ⟨⟨C5, E5, L5⟩, hQ⟩ : ∃ Q, calledS C D L (wrap64 (C.pc + n)) = Q := ⟨_, rfl⟩
  have HE : Hid (R = (C5, E5, true, L5)) := Lib.hid (by rw [← HR.out]; show ((calledS C D L (wrap64 (C.pc + n))).1, (calledS C D L (wrap64 (C.pc + n))).2.1, true, (calledS C D L (wrap64 (C.pc + n))).2.2) = _; rw [hQ])
  rw [hQ] at C1
  clear hQ HR HC
  go_wp2_with (first | (refine wpList_load_rowW rfl 37 _ rfl b0 rfl C.arr _ (M2.out.getc b0) Try.underlying37 rfl (by kernel_rfl) ?_) | (refine wpList_load_rowW rfl 37 _ rfl b1 rfl D.arr _ (M2.out.getc b1) Try.underlying37 rfl (by kernel_rfl) ?_))
  refine (C1.out).mono ?_
  rintro e w3 ⟨rfl, m⟩
  clear M2 i0 i1 i4 ol lv ra
  have es : (w3.alloc (.cells #[.int .i64 0, .int .i64 0, .int .i64 0, .int .i64 0, .int .i64 0, .int .i64 0, .int .i64 0, .int .i64 0, .int .i64 0, .int .i64 0, .int .i64 0, .int .i64 0, .int .i64 0, .int .i64 0, .int .i64 0, .int .i64 0, .int .i64 0, .int .i64 0] 37)).heap.size = w3.heap.size + 1 := by simp
  have Na := Lib.hid ((m.newcel 37 #[.int .i64 0, .int .i64 0, .int .i64 0, .int .i64 0, .int .i64 0, .int .i64 0, .int .i64 0, .int .i64 0, .int .i64 0, .int .i64 0, .int .i64 0, .int .i64 0, .int .i64 0, .int .i64 0, .int .i64 0, .int .i64 0, .int .i64 0, .int .i64 0]).newcel 40 #[.int .i64 0, .int .i64 0, .int .i64 0, .int .i64 0, .int .i64 0])
  rw [es] at Na
  have Nb := Lib.hid (Na.out.rowc w3.heap.size C5.arr)
  have Nc := Lib.hid (Nb.out.rowc (w3.heap.size + 1) E5.arr)
  go_wp2_with (first | (refine wpList_store_row rfl 37 _ _ rfl w3.heap.size C5.arr rfl rfl 37 #[.int .i64 0, .int .i64 0, .int .i64 0, .int .i64 0, .int .i64 0, .int .i64 0, .int .i64 0, .int .i64 0, .int .i64 0, .int .i64 0, .int .i64 0, .int .i64 0, .int .i64 0, .int .i64 0, .int .i64 0, .int .i64 0, .int .i64 0, .int .i64 0] (Na.out.getc w3.heap.size) (by kernel_rfl) rfl (by kernel_rfl) ?_) | (refine wpList_store_row rfl 40 _ _ rfl (w3.heap.size + 1) E5.arr rfl rfl 40 #[.int .i64 0, .int .i64 0, .int .i64 0, .int .i64 0, .int .i64 0] (Nb.out.getc (w3.heap.size + 1)) (by kernel_rfl) rfl (by kernel_rfl) ?_))
  obtain ⟨W4, hW⟩ : ∃ W4, (((w3.alloc (.cells #[.int .i64 0, .int .i64 0, .int .i64 0, .int .i64 0, .int .i64 0, .int .i64 0, .int .i64 0, .int .i64 0, .int .i64 0, .int .i64 0, .int .i64 0, .int .i64 0, .int .i64 0, .int .i64 0, .int .i64 0, .int .i64 0, .int .i64 0, .int .i64 0] 37)).alloc (.cells #[.int .i64 0, .int .i64 0, .int .i64 0, .int .i64 0, .int .i64 0] 40)).setRow w3.heap.size C5.arr).setRow (w3.heap.size + 1) E5.arr = W4 := ⟨_, rfl⟩
  have M4 := Nc
  rw [hW] at M4 ⊢
  clear hW es Na Nb Nc m C1
  generalize w3.heap.size + 1 = e4 at M4 ⊢
  generalize w3.heap.size = x4 at M4 ⊢
  have N0 := Lib.hid (M4.out.stay below_drw)
  have HS0 : (fun X => Blk X x4 37 C5.arr ∧ Blk X e4 40 E5.arr) W4.drew := ⟨N0.out.getc x4, N0.out.getc e4⟩
  refine wp_region_noPanic ?_
  refine wp_region_held_drew (S := fun X => Blk X x4 37 C5.arr ∧ Blk X e4 40 E5.arr) (by kernel_rfl) HS0 ?_
  clear HS0
  intro hS
  refine wpAnyH_take (i := 0) rfl (by kernel_rfl) (by kernel_rfl) (by kernel_rfl) (fun _ _ _ h => h) (yields_load_row rfl 37 _ rfl x4 (by kernel_rfl) 37 C5.arr _ (fun w h => h.1) Try.underlying37 rfl (by kernel_rfl)) hS ?_
  refine wpAnyH_take (i := 1) rfl (by kernel_rfl) (by kernel_rfl) (by kernel_rfl) (fun _ _ _ h => h) (yields_load_row rfl 40 _ rfl e4 (by kernel_rfl) 40 E5.arr _ (fun w h => h.2) Try.underlying40 rfl (by kernel_rfl)) hS ?_
  refine wpAnyH_all (rs := [2]) (by kernel_rfl) (by simp) ?_
  intro i hi
  obtain rfl : i = 2 := by simpa using hi
  have N0s1 := Lib.hid (N0.out.rowc b3 C5.arr)
  refine wpOp_store_row rfl rfl 37 _ _ rfl b3 C5.arr (by kernel_rfl) (by kernel_rfl) 37 #[.int .i64 0, .int .i64 0, .int .i64 0, .int .i64 0, .int .i64 0, .int .i64 0, .int .i64 0, .int .i64 0, .int .i64 0, .int .i64 0, .int .i64 0, .int .i64 0, .int .i64 0, .int .i64 0, .int .i64 0, .int .i64 0, .int .i64 0, .int .i64 0] (N0.out.getc b3) (by kernel_rfl) rfl (by kernel_rfl) ?_
  have hS1 : (fun X => Blk X x4 37 C5.arr ∧ Blk X e4 40 E5.arr) _ := ⟨N0s1.out.getc x4, N0s1.out.getc e4⟩
  refine ⟨hS1, ?_⟩
  refine wpAnyH_all (rs := [3]) (by kernel_rfl) (by simp) ?_
  intro i hi
  obtain rfl : i = 3 := by simpa using hi
  have N0s2 := Lib.hid (N0s1.out.rowc b4 E5.arr)
  refine wpOp_store_row rfl rfl 40 _ _ rfl b4 E5.arr (by kernel_rfl) (by kernel_rfl) 40 #[.int .i64 0, .int .i64 0, .int .i64 0, .int .i64 0, .int .i64 0] (N0s1.out.getc b4) (by kernel_rfl) rfl (by kernel_rfl) ?_
  have hS2 : (fun X => Blk X x4 37 C5.arr ∧ Blk X e4 40 E5.arr) _ := ⟨N0s2.out.getc x4, N0s2.out.getc e4⟩
  refine ⟨hS2, ?_⟩
  refine wpAnyH_take (i := 4) (v := .bool true) rfl (by kernel_rfl) (by kernel_rfl) (by kernel_rfl) (fun _ _ _ h => h) (yields_pure rfl (fun w => by kernel_rfl)) hS2 ?_
  refine wpAnyH_done (by kernel_rfl) ?_ _
  refine NoPanic.normal ?_
  go_wp2
  try simp only [Exit.inBlock, Exit.then]
  refine bodyPost_ret (results_cell3_row (p := 8) (u := 9) (q := 10) (ty := 37) (uy := 40) rfl _ _ b3 b4 37 40 C5.arr E5.arr _ _ (by kernel_rfl) (N0s2.out.getc b3) Try.underlying37 rfl (by kernel_rfl) (by kernel_rfl) (N0s2.out.getc b4) Try.underlying40 rfl (by kernel_rfl) (.bool true) (by kernel_rfl)) rfl ?_
  exact ⟨by rw [HE.out]; first | done | rfl, by rw [HE.out]; exact N0s2.out.back (Rf c L5) Y⟩
set_option maxRecDepth 100000 in
set_option maxHeartbeats 4000000 in
theorem jumped_16 [hY : Fr Y] (h : Has B w wr (Star (Rf c L) Y)) (C D : Ctx) (hC : CtxOk C) {a b cc : Nat} (ha : a < 16) (n : Int) : Calls Try.prog 36 #[.agg C.arr, .agg D.arr, .pointer (some ⟨c, 0, none⟩), .agg (insA ⟨16, a, b, cc, n⟩)] wr (JumpE B w c (jumpedS C D L ⟨16, a, b, cc, n⟩) Y) := by
  obtain ⟨R, hR⟩ : ∃ R, jumpedS C D L ⟨16, a, b, cc, n⟩ = R := ⟨_, rfl⟩
  rw [hR]
  have HR := Lib.hid hR
  have HC := Lib.hid hC
  clear hR hC
  unfold Ctx.arr insA
  have M0 := Lib.hid (((((h.newcel 37 #[.int .i64 C.pc, .int .i64 C.tp, .int .i64 (C.r 0), .int .i64 (C.r 1), .int .i64 (C.r 2), .int .i64 (C.r 3), .int .i64 (C.r 4), .int .i64 (C.r 5), .int .i64 (C.r 6), .int .i64 (C.r 7), .int .i64 (C.r 8), .int .i64 (C.r 9), .int .i64 (C.r 10), .int .i64 (C.r 11), .int .i64 (C.r 12), .int .i64 (C.r 13), .int .i64 (C.r 14), .int .i64 (C.r 15)]).newcel 37 #[.int .i64 D.pc, .int .i64 D.tp, .int .i64 (D.r 0), .int .i64 (D.r 1), .int .i64 (D.r 2), .int .i64 (D.r 3), .int .i64 (D.r 4), .int .i64 (D.r 5), .int .i64 (D.r 6), .int .i64 (D.r 7), .int .i64 (D.r 8), .int .i64 (D.r 9), .int .i64 (D.r 10), .int .i64 (D.r 11), .int .i64 (D.r 12), .int .i64 (D.r 13), .int .i64 (D.r 14), .int .i64 (D.r 15)]).newcel 30 #[.int .i64 16, .int .i64 a, .int .i64 b, .int .i64 cc, .int .i64 n]).newcel 37 #[.int .i64 0, .int .i64 0, .int .i64 0, .int .i64 0, .int .i64 0, .int .i64 0, .int .i64 0, .int .i64 0, .int .i64 0, .int .i64 0, .int .i64 0, .int .i64 0, .int .i64 0, .int .i64 0, .int .i64 0, .int .i64 0, .int .i64 0, .int .i64 0]).newcel 40 #[.int .i64 0, .int .i64 0, .int .i64 0, .int .i64 0, .int .i64 0])
  go_enter Try.func36, Try.ntmps36
  go_upto_region 1 with (fail)
  have e1 : (wr.alloc (.cells #[.int .i64 C.pc, .int .i64 C.tp, .int .i64 (C.r 0), .int .i64 (C.r 1), .int .i64 (C.r 2), .int .i64 (C.r 3), .int .i64 (C.r 4), .int .i64 (C.r 5), .int .i64 (C.r 6), .int .i64 (C.r 7), .int .i64 (C.r 8), .int .i64 (C.r 9), .int .i64 (C.r 10), .int .i64 (C.r 11), .int .i64 (C.r 12), .int .i64 (C.r 13), .int .i64 (C.r 14), .int .i64 (C.r 15)] 37)).heap.size = wr.heap.size + 1 := by simp
  have e2 : ((wr.alloc (.cells #[.int .i64 C.pc, .int .i64 C.tp, .int .i64 (C.r 0), .int .i64 (C.r 1), .int .i64 (C.r 2), .int .i64 (C.r 3), .int .i64 (C.r 4), .int .i64 (C.r 5), .int .i64 (C.r 6), .int .i64 (C.r 7), .int .i64 (C.r 8), .int .i64 (C.r 9), .int .i64 (C.r 10), .int .i64 (C.r 11), .int .i64 (C.r 12), .int .i64 (C.r 13), .int .i64 (C.r 14), .int .i64 (C.r 15)] 37)).alloc (.cells #[.int .i64 D.pc, .int .i64 D.tp, .int .i64 (D.r 0), .int .i64 (D.r 1), .int .i64 (D.r 2), .int .i64 (D.r 3), .int .i64 (D.r 4), .int .i64 (D.r 5), .int .i64 (D.r 6), .int .i64 (D.r 7), .int .i64 (D.r 8), .int .i64 (D.r 9), .int .i64 (D.r 10), .int .i64 (D.r 11), .int .i64 (D.r 12), .int .i64 (D.r 13), .int .i64 (D.r 14), .int .i64 (D.r 15)] 37)).heap.size = wr.heap.size + 1 + 1 := by simp
  have e3 : (((wr.alloc (.cells #[.int .i64 C.pc, .int .i64 C.tp, .int .i64 (C.r 0), .int .i64 (C.r 1), .int .i64 (C.r 2), .int .i64 (C.r 3), .int .i64 (C.r 4), .int .i64 (C.r 5), .int .i64 (C.r 6), .int .i64 (C.r 7), .int .i64 (C.r 8), .int .i64 (C.r 9), .int .i64 (C.r 10), .int .i64 (C.r 11), .int .i64 (C.r 12), .int .i64 (C.r 13), .int .i64 (C.r 14), .int .i64 (C.r 15)] 37)).alloc (.cells #[.int .i64 D.pc, .int .i64 D.tp, .int .i64 (D.r 0), .int .i64 (D.r 1), .int .i64 (D.r 2), .int .i64 (D.r 3), .int .i64 (D.r 4), .int .i64 (D.r 5), .int .i64 (D.r 6), .int .i64 (D.r 7), .int .i64 (D.r 8), .int .i64 (D.r 9), .int .i64 (D.r 10), .int .i64 (D.r 11), .int .i64 (D.r 12), .int .i64 (D.r 13), .int .i64 (D.r 14), .int .i64 (D.r 15)] 37)).alloc (.cells #[.int .i64 16, .int .i64 a, .int .i64 b, .int .i64 cc, .int .i64 n] 30)).heap.size = wr.heap.size + 1 + 1 + 1 := by simp
  have e4 : ((((wr.alloc (.cells #[.int .i64 C.pc, .int .i64 C.tp, .int .i64 (C.r 0), .int .i64 (C.r 1), .int .i64 (C.r 2), .int .i64 (C.r 3), .int .i64 (C.r 4), .int .i64 (C.r 5), .int .i64 (C.r 6), .int .i64 (C.r 7), .int .i64 (C.r 8), .int .i64 (C.r 9), .int .i64 (C.r 10), .int .i64 (C.r 11), .int .i64 (C.r 12), .int .i64 (C.r 13), .int .i64 (C.r 14), .int .i64 (C.r 15)] 37)).alloc (.cells #[.int .i64 D.pc, .int .i64 D.tp, .int .i64 (D.r 0), .int .i64 (D.r 1), .int .i64 (D.r 2), .int .i64 (D.r 3), .int .i64 (D.r 4), .int .i64 (D.r 5), .int .i64 (D.r 6), .int .i64 (D.r 7), .int .i64 (D.r 8), .int .i64 (D.r 9), .int .i64 (D.r 10), .int .i64 (D.r 11), .int .i64 (D.r 12), .int .i64 (D.r 13), .int .i64 (D.r 14), .int .i64 (D.r 15)] 37)).alloc (.cells #[.int .i64 16, .int .i64 a, .int .i64 b, .int .i64 cc, .int .i64 n] 30)).alloc (.cells #[.int .i64 0, .int .i64 0, .int .i64 0, .int .i64 0, .int .i64 0, .int .i64 0, .int .i64 0, .int .i64 0, .int .i64 0, .int .i64 0, .int .i64 0, .int .i64 0, .int .i64 0, .int .i64 0, .int .i64 0, .int .i64 0, .int .i64 0, .int .i64 0] 37)).heap.size = wr.heap.size + 1 + 1 + 1 + 1 := by simp
  rw [e4, e3, e2, e1] at M0
  obtain ⟨W, hW⟩ : ∃ W, (((((wr.alloc (.cells #[.int .i64 C.pc, .int .i64 C.tp, .int .i64 (C.r 0), .int .i64 (C.r 1), .int .i64 (C.r 2), .int .i64 (C.r 3), .int .i64 (C.r 4), .int .i64 (C.r 5), .int .i64 (C.r 6), .int .i64 (C.r 7), .int .i64 (C.r 8), .int .i64 (C.r 9), .int .i64 (C.r 10), .int .i64 (C.r 11), .int .i64 (C.r 12), .int .i64 (C.r 13), .int .i64 (C.r 14), .int .i64 (C.r 15)] 37)).alloc (.cells #[.int .i64 D.pc, .int .i64 D.tp, .int .i64 (D.r 0), .int .i64 (D.r 1), .int .i64 (D.r 2), .int .i64 (D.r 3), .int .i64 (D.r 4), .int .i64 (D.r 5), .int .i64 (D.r 6), .int .i64 (D.r 7), .int .i64 (D.r 8), .int .i64 (D.r 9), .int .i64 (D.r 10), .int .i64 (D.r 11), .int .i64 (D.r 12), .int .i64 (D.r 13), .int .i64 (D.r 14), .int .i64 (D.r 15)] 37)).alloc (.cells #[.int .i64 16, .int .i64 a, .int .i64 b, .int .i64 cc, .int .i64 n] 30)).alloc (.cells #[.int .i64 0, .int .i64 0, .int .i64 0, .int .i64 0, .int .i64 0, .int .i64 0, .int .i64 0, .int .i64 0, .int .i64 0, .int .i64 0, .int .i64 0, .int .i64 0, .int .i64 0, .int .i64 0, .int .i64 0, .int .i64 0, .int .i64 0, .int .i64 0] 37)).alloc (.cells #[.int .i64 0, .int .i64 0, .int .i64 0, .int .i64 0, .int .i64 0] 40)) = W := ⟨_, rfl⟩
  rw [hW] at M0 ⊢
  clear e1 e2 e3 e4 hW
  generalize wr.heap.size + 1 + 1 + 1 + 1 = b4 at M0 ⊢
  generalize wr.heap.size + 1 + 1 + 1 = b3 at M0 ⊢
  generalize wr.heap.size + 1 + 1 = b2 at M0 ⊢
  generalize wr.heap.size + 1 = b1 at M0 ⊢
  generalize wr.heap.size = b0 at M0 ⊢
  have M1 : Hid (Has B w W (Star (Cel b4 40 #[.int .i64 0, .int .i64 0, .int .i64 0, .int .i64 0, .int .i64 0]) (Star (Cel b3 37 #[.int .i64 0, .int .i64 0, .int .i64 0, .int .i64 0, .int .i64 0, .int .i64 0, .int .i64 0, .int .i64 0, .int .i64 0, .int .i64 0, .int .i64 0, .int .i64 0, .int .i64 0, .int .i64 0, .int .i64 0, .int .i64 0, .int .i64 0, .int .i64 0]) (Star (Cel b2 30 (insA ⟨16, a, b, cc, n⟩)) (Star (Cel b1 37 D.arr) (Star (Cel b0 37 C.arr) (Star (Rf c L) Y))))))) := M0
  clear M0
  clear h
  have M1a := Lib.hid (M1.out.newcel 40 #[.int .i64 0, .int .i64 0, .int .i64 0, .int .i64 0, .int .i64 0])
  have M1b := Lib.hid (M1a.out.rowc W.heap.size #[.int .i64 0, .int .i64 0, .int .i64 0, .int .i64 0, .int .i64 0])
  go_upto_region 2 with (first | (refine wpList_store_row rfl 40 _ _ rfl W.heap.size #[.int .i64 0, .int .i64 0, .int .i64 0, .int .i64 0, .int .i64 0] rfl rfl 40 #[.int .i64 0, .int .i64 0, .int .i64 0, .int .i64 0, .int .i64 0] (M1a.out.getc W.heap.size) (by kernel_rfl) rfl (by kernel_rfl) ?_))
  obtain ⟨W1, hW1⟩ : ∃ W1, (W.alloc (.cells #[.int .i64 0, .int .i64 0, .int .i64 0, .int .i64 0, .int .i64 0] 40)).setRow W.heap.size #[.int .i64 0, .int .i64 0, .int .i64 0, .int .i64 0, .int .i64 0] = W1 := ⟨_, rfl⟩
  have M2 := M1b
  rw [hW1] at M2 ⊢
  clear hW1 M1a M1b M1
  generalize W.heap.size = b5 at M2 ⊢
  have i0 : W1.cell? ⟨b2, 0, none⟩ = some (.int .i64 (16)) := M2.out.cellat b2 0 rfl
  have i1 : W1.cell? ⟨b2, 1, none⟩ = some (.int .i64 a) := M2.out.cellat b2 1 rfl
  have i4 : W1.cell? ⟨b2, 4, none⟩ = some (.int .i64 n) := M2.out.cellat b2 4 rfl
  have ol : W1.cell? ⟨b0, 0, none⟩ = some (.int .i64 C.pc) := M2.out.cellat b0 0 rfl
  have lv : W1.frozen? ⟨b0, 0, none⟩ = false := M2.out.liveat b0 0
  have ra : W1.cell? ⟨b0, 2 + a, none⟩ = some (.int .i64 (C.r a)) := M2.out.cellat b0 (2 + a) (ctx_reg _ ha)
  have na0 : (0 : Int) ≤ (a : Int) := by omega
  have na1 : (a : Int) < 16 := by omega
  obtain ⟨⟨C5, E5, L5⟩, hQ⟩ : ∃ Q, calledS C D L (C.r a) = Q := ⟨_, rfl⟩
  have HE : Hid (R = (C5, E5, true, L5)) := Lib.hid (by rw [← HR.out]; show ((calledS C D L (C.r a)).1, (calledS C D L (C.r a)).2.1, true, (calledS C D L (C.r a)).2.2) = _; rw [hQ])
  go_wp2_with fail
  have N0 := Lib.hid (M2.out.stay below_drw)
  have CS : Hid (∀ (w2 : World) (Y2 : Res) (hY2 : Fr Y2), Has B w w2 (Star (Rf c L) Y2) → Calls Try.prog 74 #[.agg C.arr, .agg D.arr, .pointer (some ⟨c, 0, none⟩), .int .i64 (C.r a)] w2 fun e w' => e = .returned (.tuple #[.agg C5.arr, .agg E5.arr]) ∧ Has B w w' (Star (Rf c L5) Y2)) := Lib.hid (fun w2 Y2 hY2 m => by have t := called_own m C D (C.r a); rw [hQ] at t; exact t)
  clear hQ HR HC M2 i0 i1 i4 ol lv ra
  refine wp_region_noPanic ?_
  refine wp_region_held_drew (S := fun X => Blk X b0 37 C.arr ∧ Blk X b1 37 D.arr ∧ Blk X b2 30 (insA ⟨16, a, b, cc, n⟩)) (by kernel_rfl) ⟨N0.out.getc b0, N0.out.getc b1, N0.out.getc b2⟩ ?_
  intro hS
  refine wpAnyH_take (i := 0) rfl (by kernel_rfl) (by kernel_rfl) (by kernel_rfl) (fun _ _ _ h => h) (yields_load_row rfl 37 _ rfl b0 (by kernel_rfl) 37 C.arr _ (fun w h => h.1) Try.underlying37 rfl (by kernel_rfl)) hS ?_
  refine wpAnyH_take (i := 1) rfl (by kernel_rfl) (by kernel_rfl) (by kernel_rfl) (fun _ _ _ h => h) (yields_load_row rfl 37 _ rfl b1 (by kernel_rfl) 37 D.arr _ (fun w h => h.2.1) Try.underlying37 rfl (by kernel_rfl)) hS ?_
  refine wpAnyH_take (i := 2) (v := .pointer (some ⟨c, 0, none⟩)) rfl (by kernel_rfl) (by kernel_rfl) (by kernel_rfl) (fun _ _ _ h => h) (yields_pure rfl (fun w => by kernel_rfl)) hS ?_
  refine wpAnyH_take (i := 3) (v := .pointer (some ⟨b2, 1, none⟩)) rfl (by kernel_rfl) (by kernel_rfl) (by kernel_rfl) (fun _ _ _ h => h) (yields_pure rfl (fun w => by kernel_rfl)) hS ?_
  refine wpAnyH_take (i := 4) rfl (by kernel_rfl) (by kernel_rfl) (by kernel_rfl) (fun _ _ _ h => h) (yields_load_cell rfl 3 _ rfl b2 1 (by kernel_rfl) (.int .i64 a) (fun w h => by rw [(h.2.2).cell]; rfl) _ Try.underlying3 rfl) hS ?_
  refine wpAnyH_take (i := 5) (v := .pointer (some ⟨b0, 2, none⟩)) rfl (by kernel_rfl) (by kernel_rfl) (by kernel_rfl) (fun _ _ _ h => h) (yields_pure rfl (fun w => by kernel_rfl)) hS ?_
  refine wpAnyH_take (i := 6) rfl (by kernel_rfl) (by kernel_rfl) (by kernel_rfl) (fun _ _ _ h => h) (yields_index rfl _ _ rfl b0 2 a (by kernel_rfl) (by kernel_rfl) Try.underlying35 (by kernel_rfl) ha) hS ?_
  refine wpAnyH_take (i := 7) rfl (by kernel_rfl) (by kernel_rfl) (by kernel_rfl) (fun _ _ _ h => h) (yields_load_cell rfl 3 _ rfl b0 (2 + a) (by kernel_rfl) (.int .i64 (C.r a)) (fun w h => by rw [(h.1).cell]; exact ctx_reg _ ha) _ Try.underlying3 rfl) hS ?_
  refine wpAnyH_all (rs := [8, 12, 13]) (by kernel_rfl) (by simp) ?_
  intro i hi
  obtain rfl | rfl | rfl : i = 8 ∨ i = 12 ∨ i = 13 := by simpa using hi
  · refine wpOp_call rfl rfl _ _ _ rfl _ (by kernel_rfl) ((CS.out _ _ inferInstance (N0.out.pick (Rf c L))).mono ?_)
    rintro e X1 ⟨rfl, m1⟩
    have P1 := Lib.hid m1
    clear m1 hS N0
    have hS : (fun X => Blk X b0 37 C.arr ∧ Blk X b1 37 D.arr ∧ Blk X b2 30 (insA ⟨16, a, b, cc, n⟩)) X1 := ⟨P1.out.getc b0, P1.out.getc b1, P1.out.getc b2⟩
    refine ⟨_, rfl, hS, ?_⟩
    refine wpAnyH_take (i := 9) (v := .tuple #[.agg C5.arr, .agg E5.arr]) rfl (by kernel_rfl) (by kernel_rfl) (by kernel_rfl) (fun _ _ _ h => h) (yields_pure rfl (fun w => by kernel_rfl)) hS ?_
    refine wpAnyH_take (i := 10) (v := .agg C5.arr) rfl (by kernel_rfl) (by kernel_rfl) (by kernel_rfl) (fun _ _ _ h => h) (yields_pure rfl (fun w => by kernel_rfl)) hS ?_
    refine wpAnyH_take (i := 11) (v := .agg E5.arr) rfl (by kernel_rfl) (by kernel_rfl) (by kernel_rfl) (fun _ _ _ h => h) (yields_pure rfl (fun w => by kernel_rfl)) hS ?_
    refine wpAnyH_all (rs := [12, 13]) (by kernel_rfl) (by simp) ?_
    intro i hi
    obtain rfl | rfl : i = 12 ∨ i = 13 := by simpa using hi
    · have Q2 := Lib.hid (P1.out.newcel 37 #[.int .i64 0, .int .i64 0, .int .i64 0, .int .i64 0, .int .i64 0, .int .i64 0, .int .i64 0, .int .i64 0, .int .i64 0, .int .i64 0, .int .i64 0, .int .i64 0, .int .i64 0, .int .i64 0, .int .i64 0, .int .i64 0, .int .i64 0, .int .i64 0])
      refine wpOp_run (v := .pointer (some ⟨X1.heap.size, 0, none⟩)) (w' := X1.alloc (.cells #[.int .i64 0, .int .i64 0, .int .i64 0, .int .i64 0, .int .i64 0, .int .i64 0, .int .i64 0, .int .i64 0, .int .i64 0, .int .i64 0, .int .i64 0, .int .i64 0, .int .i64 0, .int .i64 0, .int .i64 0, .int .i64 0, .int .i64 0, .int .i64 0] 37)) rfl rfl (by kernel_rfl) ?_
      obtain ⟨X2, hX⟩ : ∃ X2, X1.alloc (.cells #[.int .i64 0, .int .i64 0, .int .i64 0, .int .i64 0, .int .i64 0, .int .i64 0, .int .i64 0, .int .i64 0, .int .i64 0, .int .i64 0, .int .i64 0, .int .i64 0, .int .i64 0, .int .i64 0, .int .i64 0, .int .i64 0, .int .i64 0, .int .i64 0] 37) = X2 := ⟨_, rfl⟩
      have P2 := Q2
      rw [hX] at P2 ⊢
      clear hX Q2 hS P1
      generalize X1.heap.size = x4 at P2 ⊢
      have hS : (fun X => Blk X b0 37 C.arr ∧ Blk X b1 37 D.arr ∧ Blk X b2 30 (insA ⟨16, a, b, cc, n⟩)) X2 := ⟨P2.out.getc b0, P2.out.getc b1, P2.out.getc b2⟩
      refine ⟨hS, ?_⟩
      refine wpAnyH_all (rs := [13]) (by kernel_rfl) (by simp) ?_
      intro i hi
      obtain rfl : i = 13 := by simpa using hi
      have Q3 := Lib.hid (P2.out.newcel 40 #[.int .i64 0, .int .i64 0, .int .i64 0, .int .i64 0, .int .i64 0])
      refine wpOp_run (v := .pointer (some ⟨X2.heap.size, 0, none⟩)) (w' := X2.alloc (.cells #[.int .i64 0, .int .i64 0, .int .i64 0, .int .i64 0, .int .i64 0] 40)) rfl rfl (by kernel_rfl) ?_
      obtain ⟨X3, hX⟩ : ∃ X3, X2.alloc (.cells #[.int .i64 0, .int .i64 0, .int .i64 0, .int .i64 0, .int .i64 0] 40) = X3 := ⟨_, rfl⟩
      have P3 := Q3
      rw [hX] at P3 ⊢
      clear hX Q3 hS P2
      generalize X2.heap.size = e4 at P3 ⊢
      have hS : (fun X => Blk X b0 37 C.arr ∧ Blk X b1 37 D.arr ∧ Blk X b2 30 (insA ⟨16, a, b, cc, n⟩)) X3 := ⟨P3.out.getc b0, P3.out.getc b1, P3.out.getc b2⟩
      refine ⟨hS, ?_⟩
      have K1 := Lib.hid (P3.out.rowc x4 C5.arr)
      have K2 := Lib.hid (K1.out.rowc e4 E5.arr)
      refine wpAnyH_all (rs := [14]) (by kernel_rfl) (by simp) ?_
      intro i hi
      obtain rfl : i = 14 := by simpa using hi
      refine wpOp_store_row rfl rfl 37 _ _ rfl x4 C5.arr (by kernel_rfl) (by kernel_rfl) 37 #[.int .i64 0, .int .i64 0, .int .i64 0, .int .i64 0, .int .i64 0, .int .i64 0, .int .i64 0, .int .i64 0, .int .i64 0, .int .i64 0, .int .i64 0, .int .i64 0, .int .i64 0, .int .i64 0, .int .i64 0, .int .i64 0, .int .i64 0, .int .i64 0] (P3.out.getc x4) (by kernel_rfl) rfl (by kernel_rfl) ?_
      refine ⟨⟨K1.out.getc b0, K1.out.getc b1, K1.out.getc b2⟩, ?_⟩
      refine wpAnyH_all (rs := [15]) (by kernel_rfl) (by simp) ?_
      intro i hi
      obtain rfl : i = 15 := by simpa using hi
      refine wpOp_store_row rfl rfl 40 _ _ rfl e4 E5.arr (by kernel_rfl) (by kernel_rfl) 40 #[.int .i64 0, .int .i64 0, .int .i64 0, .int .i64 0, .int .i64 0] (K1.out.getc e4) (by kernel_rfl) rfl (by kernel_rfl) ?_
      refine ⟨⟨K2.out.getc b0, K2.out.getc b1, K2.out.getc b2⟩, ?_⟩
      refine wpAnyH_done (by kernel_rfl) ?_ _
      refine NoPanic.normal ?_
      clear hS P3 K1
      obtain ⟨W9, hW9⟩ : ∃ W9, (X3.setRow x4 C5.arr).setRow e4 E5.arr = W9 := ⟨_, rfl⟩
      have M9 := K2
      rw [hW9] at M9 ⊢
      clear hW9 K2
      go_wp2_with fail
      have N0 := Lib.hid (M9.out.stay below_drw)
      have HS0 : (fun X => Blk X x4 37 C5.arr ∧ Blk X e4 40 E5.arr) W9.drew := ⟨N0.out.getc x4, N0.out.getc e4⟩
      refine wp_region_noPanic ?_
      refine wp_region_held_drew (S := fun X => Blk X x4 37 C5.arr ∧ Blk X e4 40 E5.arr) (by kernel_rfl) HS0 ?_
      clear HS0
      intro hS
      refine wpAnyH_take (i := 0) rfl (by kernel_rfl) (by kernel_rfl) (by kernel_rfl) (fun _ _ _ h => h) (yields_load_row rfl 37 _ rfl x4 (by kernel_rfl) 37 C5.arr _ (fun w h => h.1) Try.underlying37 rfl (by kernel_rfl)) hS ?_
      refine wpAnyH_take (i := 1) rfl (by kernel_rfl) (by kernel_rfl) (by kernel_rfl) (fun _ _ _ h => h) (yields_load_row rfl 40 _ rfl e4 (by kernel_rfl) 40 E5.arr _ (fun w h => h.2) Try.underlying40 rfl (by kernel_rfl)) hS ?_
      refine wpAnyH_all (rs := [2]) (by kernel_rfl) (by simp) ?_
      intro i hi
      obtain rfl : i = 2 := by simpa using hi
      have N0s1 := Lib.hid (N0.out.rowc b3 C5.arr)
      refine wpOp_store_row rfl rfl 37 _ _ rfl b3 C5.arr (by kernel_rfl) (by kernel_rfl) 37 #[.int .i64 0, .int .i64 0, .int .i64 0, .int .i64 0, .int .i64 0, .int .i64 0, .int .i64 0, .int .i64 0, .int .i64 0, .int .i64 0, .int .i64 0, .int .i64 0, .int .i64 0, .int .i64 0, .int .i64 0, .int .i64 0, .int .i64 0, .int .i64 0] (N0.out.getc b3) (by kernel_rfl) rfl (by kernel_rfl) ?_
      have hS1 : (fun X => Blk X x4 37 C5.arr ∧ Blk X e4 40 E5.arr) _ := ⟨N0s1.out.getc x4, N0s1.out.getc e4⟩
      refine ⟨hS1, ?_⟩
      refine wpAnyH_all (rs := [3]) (by kernel_rfl) (by simp) ?_
      intro i hi
      obtain rfl : i = 3 := by simpa using hi
      have N0s2 := Lib.hid (N0s1.out.rowc b4 E5.arr)
      refine wpOp_store_row rfl rfl 40 _ _ rfl b4 E5.arr (by kernel_rfl) (by kernel_rfl) 40 #[.int .i64 0, .int .i64 0, .int .i64 0, .int .i64 0, .int .i64 0] (N0s1.out.getc b4) (by kernel_rfl) rfl (by kernel_rfl) ?_
      have hS2 : (fun X => Blk X x4 37 C5.arr ∧ Blk X e4 40 E5.arr) _ := ⟨N0s2.out.getc x4, N0s2.out.getc e4⟩
      refine ⟨hS2, ?_⟩
      refine wpAnyH_take (i := 4) (v := .bool true) rfl (by kernel_rfl) (by kernel_rfl) (by kernel_rfl) (fun _ _ _ h => h) (yields_pure rfl (fun w => by kernel_rfl)) hS2 ?_
      refine wpAnyH_done (by kernel_rfl) ?_ _
      refine NoPanic.normal ?_
      go_wp2
      try simp only [Exit.inBlock, Exit.then]
      refine bodyPost_ret (results_cell3_row (p := 8) (u := 9) (q := 10) (ty := 37) (uy := 40) rfl _ _ b3 b4 37 40 C5.arr E5.arr _ _ (by kernel_rfl) (N0s2.out.getc b3) Try.underlying37 rfl (by kernel_rfl) (by kernel_rfl) (N0s2.out.getc b4) Try.underlying40 rfl (by kernel_rfl) (.bool true) (by kernel_rfl)) rfl ?_
      exact ⟨by rw [HE.out]; first | done | rfl, by rw [HE.out]; exact N0s2.out.back (Rf c L5) Y⟩
    · have Q2 := Lib.hid (P1.out.newcel 40 #[.int .i64 0, .int .i64 0, .int .i64 0, .int .i64 0, .int .i64 0])
      refine wpOp_run (v := .pointer (some ⟨X1.heap.size, 0, none⟩)) (w' := X1.alloc (.cells #[.int .i64 0, .int .i64 0, .int .i64 0, .int .i64 0, .int .i64 0] 40)) rfl rfl (by kernel_rfl) ?_
      obtain ⟨X2, hX⟩ : ∃ X2, X1.alloc (.cells #[.int .i64 0, .int .i64 0, .int .i64 0, .int .i64 0, .int .i64 0] 40) = X2 := ⟨_, rfl⟩
      have P2 := Q2
      rw [hX] at P2 ⊢
      clear hX Q2 hS P1
      generalize X1.heap.size = e4 at P2 ⊢
      have hS : (fun X => Blk X b0 37 C.arr ∧ Blk X b1 37 D.arr ∧ Blk X b2 30 (insA ⟨16, a, b, cc, n⟩)) X2 := ⟨P2.out.getc b0, P2.out.getc b1, P2.out.getc b2⟩
      refine ⟨hS, ?_⟩
      refine wpAnyH_all (rs := [12]) (by kernel_rfl) (by simp) ?_
      intro i hi
      obtain rfl : i = 12 := by simpa using hi
      have Q3 := Lib.hid (P2.out.newcel 37 #[.int .i64 0, .int .i64 0, .int .i64 0, .int .i64 0, .int .i64 0, .int .i64 0, .int .i64 0, .int .i64 0, .int .i64 0, .int .i64 0, .int .i64 0, .int .i64 0, .int .i64 0, .int .i64 0, .int .i64 0, .int .i64 0, .int .i64 0, .int .i64 0])
      refine wpOp_run (v := .pointer (some ⟨X2.heap.size, 0, none⟩)) (w' := X2.alloc (.cells #[.int .i64 0, .int .i64 0, .int .i64 0, .int .i64 0, .int .i64 0, .int .i64 0, .int .i64 0, .int .i64 0, .int .i64 0, .int .i64 0, .int .i64 0, .int .i64 0, .int .i64 0, .int .i64 0, .int .i64 0, .int .i64 0, .int .i64 0, .int .i64 0] 37)) rfl rfl (by kernel_rfl) ?_
      obtain ⟨X3, hX⟩ : ∃ X3, X2.alloc (.cells #[.int .i64 0, .int .i64 0, .int .i64 0, .int .i64 0, .int .i64 0, .int .i64 0, .int .i64 0, .int .i64 0, .int .i64 0, .int .i64 0, .int .i64 0, .int .i64 0, .int .i64 0, .int .i64 0, .int .i64 0, .int .i64 0, .int .i64 0, .int .i64 0] 37) = X3 := ⟨_, rfl⟩
      have P3 := Q3
      rw [hX] at P3 ⊢
      clear hX Q3 hS P2
      generalize X2.heap.size = x4 at P3 ⊢
      have hS : (fun X => Blk X b0 37 C.arr ∧ Blk X b1 37 D.arr ∧ Blk X b2 30 (insA ⟨16, a, b, cc, n⟩)) X3 := ⟨P3.out.getc b0, P3.out.getc b1, P3.out.getc b2⟩
      refine ⟨hS, ?_⟩
      have K1 := Lib.hid (P3.out.rowc x4 C5.arr)
      have K2 := Lib.hid (K1.out.rowc e4 E5.arr)
      refine wpAnyH_all (rs := [14]) (by kernel_rfl) (by simp) ?_
      intro i hi
      obtain rfl : i = 14 := by simpa using hi
      refine wpOp_store_row rfl rfl 37 _ _ rfl x4 C5.arr (by kernel_rfl) (by kernel_rfl) 37 #[.int .i64 0, .int .i64 0, .int .i64 0, .int .i64 0, .int .i64 0, .int .i64 0, .int .i64 0, .int .i64 0, .int .i64 0, .int .i64 0, .int .i64 0, .int .i64 0, .int .i64 0, .int .i64 0, .int .i64 0, .int .i64 0, .int .i64 0, .int .i64 0] (P3.out.getc x4) (by kernel_rfl) rfl (by kernel_rfl) ?_
      refine ⟨⟨K1.out.getc b0, K1.out.getc b1, K1.out.getc b2⟩, ?_⟩
      refine wpAnyH_all (rs := [15]) (by kernel_rfl) (by simp) ?_
      intro i hi
      obtain rfl : i = 15 := by simpa using hi
      refine wpOp_store_row rfl rfl 40 _ _ rfl e4 E5.arr (by kernel_rfl) (by kernel_rfl) 40 #[.int .i64 0, .int .i64 0, .int .i64 0, .int .i64 0, .int .i64 0] (K1.out.getc e4) (by kernel_rfl) rfl (by kernel_rfl) ?_
      refine ⟨⟨K2.out.getc b0, K2.out.getc b1, K2.out.getc b2⟩, ?_⟩
      refine wpAnyH_done (by kernel_rfl) ?_ _
      refine NoPanic.normal ?_
      clear hS P3 K1
      obtain ⟨W9, hW9⟩ : ∃ W9, (X3.setRow x4 C5.arr).setRow e4 E5.arr = W9 := ⟨_, rfl⟩
      have M9 := K2
      rw [hW9] at M9 ⊢
      clear hW9 K2
      go_wp2_with fail
      have N0 := Lib.hid (M9.out.stay below_drw)
      have HS0 : (fun X => Blk X x4 37 C5.arr ∧ Blk X e4 40 E5.arr) W9.drew := ⟨N0.out.getc x4, N0.out.getc e4⟩
      refine wp_region_noPanic ?_
      refine wp_region_held_drew (S := fun X => Blk X x4 37 C5.arr ∧ Blk X e4 40 E5.arr) (by kernel_rfl) HS0 ?_
      clear HS0
      intro hS
      refine wpAnyH_take (i := 0) rfl (by kernel_rfl) (by kernel_rfl) (by kernel_rfl) (fun _ _ _ h => h) (yields_load_row rfl 37 _ rfl x4 (by kernel_rfl) 37 C5.arr _ (fun w h => h.1) Try.underlying37 rfl (by kernel_rfl)) hS ?_
      refine wpAnyH_take (i := 1) rfl (by kernel_rfl) (by kernel_rfl) (by kernel_rfl) (fun _ _ _ h => h) (yields_load_row rfl 40 _ rfl e4 (by kernel_rfl) 40 E5.arr _ (fun w h => h.2) Try.underlying40 rfl (by kernel_rfl)) hS ?_
      refine wpAnyH_all (rs := [2]) (by kernel_rfl) (by simp) ?_
      intro i hi
      obtain rfl : i = 2 := by simpa using hi
      have N0s1 := Lib.hid (N0.out.rowc b3 C5.arr)
      refine wpOp_store_row rfl rfl 37 _ _ rfl b3 C5.arr (by kernel_rfl) (by kernel_rfl) 37 #[.int .i64 0, .int .i64 0, .int .i64 0, .int .i64 0, .int .i64 0, .int .i64 0, .int .i64 0, .int .i64 0, .int .i64 0, .int .i64 0, .int .i64 0, .int .i64 0, .int .i64 0, .int .i64 0, .int .i64 0, .int .i64 0, .int .i64 0, .int .i64 0] (N0.out.getc b3) (by kernel_rfl) rfl (by kernel_rfl) ?_
      have hS1 : (fun X => Blk X x4 37 C5.arr ∧ Blk X e4 40 E5.arr) _ := ⟨N0s1.out.getc x4, N0s1.out.getc e4⟩
      refine ⟨hS1, ?_⟩
      refine wpAnyH_all (rs := [3]) (by kernel_rfl) (by simp) ?_
      intro i hi
      obtain rfl : i = 3 := by simpa using hi
      have N0s2 := Lib.hid (N0s1.out.rowc b4 E5.arr)
      refine wpOp_store_row rfl rfl 40 _ _ rfl b4 E5.arr (by kernel_rfl) (by kernel_rfl) 40 #[.int .i64 0, .int .i64 0, .int .i64 0, .int .i64 0, .int .i64 0] (N0s1.out.getc b4) (by kernel_rfl) rfl (by kernel_rfl) ?_
      have hS2 : (fun X => Blk X x4 37 C5.arr ∧ Blk X e4 40 E5.arr) _ := ⟨N0s2.out.getc x4, N0s2.out.getc e4⟩
      refine ⟨hS2, ?_⟩
      refine wpAnyH_take (i := 4) (v := .bool true) rfl (by kernel_rfl) (by kernel_rfl) (by kernel_rfl) (fun _ _ _ h => h) (yields_pure rfl (fun w => by kernel_rfl)) hS2 ?_
      refine wpAnyH_done (by kernel_rfl) ?_ _
      refine NoPanic.normal ?_
      go_wp2
      try simp only [Exit.inBlock, Exit.then]
      refine bodyPost_ret (results_cell3_row (p := 8) (u := 9) (q := 10) (ty := 37) (uy := 40) rfl _ _ b3 b4 37 40 C5.arr E5.arr _ _ (by kernel_rfl) (N0s2.out.getc b3) Try.underlying37 rfl (by kernel_rfl) (by kernel_rfl) (N0s2.out.getc b4) Try.underlying40 rfl (by kernel_rfl) (.bool true) (by kernel_rfl)) rfl ?_
      exact ⟨by rw [HE.out]; first | done | rfl, by rw [HE.out]; exact N0s2.out.back (Rf c L5) Y⟩
  · have Q1 := Lib.hid (N0.out.newcel 37 #[.int .i64 0, .int .i64 0, .int .i64 0, .int .i64 0, .int .i64 0, .int .i64 0, .int .i64 0, .int .i64 0, .int .i64 0, .int .i64 0, .int .i64 0, .int .i64 0, .int .i64 0, .int .i64 0, .int .i64 0, .int .i64 0, .int .i64 0, .int .i64 0])
    refine wpOp_run (v := .pointer (some ⟨W1.drew.heap.size, 0, none⟩)) (w' := W1.drew.alloc (.cells #[.int .i64 0, .int .i64 0, .int .i64 0, .int .i64 0, .int .i64 0, .int .i64 0, .int .i64 0, .int .i64 0, .int .i64 0, .int .i64 0, .int .i64 0, .int .i64 0, .int .i64 0, .int .i64 0, .int .i64 0, .int .i64 0, .int .i64 0, .int .i64 0] 37)) rfl rfl (by kernel_rfl) ?_
    obtain ⟨X1, hX⟩ : ∃ X1, W1.drew.alloc (.cells #[.int .i64 0, .int .i64 0, .int .i64 0, .int .i64 0, .int .i64 0, .int .i64 0, .int .i64 0, .int .i64 0, .int .i64 0, .int .i64 0, .int .i64 0, .int .i64 0, .int .i64 0, .int .i64 0, .int .i64 0, .int .i64 0, .int .i64 0, .int .i64 0] 37) = X1 := ⟨_, rfl⟩
    have P1 := Q1
    rw [hX] at P1 ⊢
    clear hX Q1 hS N0
    generalize W1.drew.heap.size = x4 at P1 ⊢
    have hS : (fun X => Blk X b0 37 C.arr ∧ Blk X b1 37 D.arr ∧ Blk X b2 30 (insA ⟨16, a, b, cc, n⟩)) X1 := ⟨P1.out.getc b0, P1.out.getc b1, P1.out.getc b2⟩
    refine ⟨hS, ?_⟩
    refine wpAnyH_all (rs := [8, 13]) (by kernel_rfl) (by simp) ?_
    intro i hi
    obtain rfl | rfl : i = 8 ∨ i = 13 := by simpa using hi
    · refine wpOp_call rfl rfl _ _ _ rfl _ (by kernel_rfl) ((CS.out _ _ inferInstance (P1.out.pick (Rf c L))).mono ?_)
      rintro e X2 ⟨rfl, m2⟩
      have P2 := Lib.hid m2
      clear m2 hS P1
      have hS : (fun X => Blk X b0 37 C.arr ∧ Blk X b1 37 D.arr ∧ Blk X b2 30 (insA ⟨16, a, b, cc, n⟩)) X2 := ⟨P2.out.getc b0, P2.out.getc b1, P2.out.getc b2⟩
      refine ⟨_, rfl, hS, ?_⟩
      refine wpAnyH_take (i := 9) (v := .tuple #[.agg C5.arr, .agg E5.arr]) rfl (by kernel_rfl) (by kernel_rfl) (by kernel_rfl) (fun _ _ _ h => h) (yields_pure rfl (fun w => by kernel_rfl)) hS ?_
      refine wpAnyH_take (i := 10) (v := .agg C5.arr) rfl (by kernel_rfl) (by kernel_rfl) (by kernel_rfl) (fun _ _ _ h => h) (yields_pure rfl (fun w => by kernel_rfl)) hS ?_
      refine wpAnyH_take (i := 11) (v := .agg E5.arr) rfl (by kernel_rfl) (by kernel_rfl) (by kernel_rfl) (fun _ _ _ h => h) (yields_pure rfl (fun w => by kernel_rfl)) hS ?_
      refine wpAnyH_all (rs := [13]) (by kernel_rfl) (by simp) ?_
      intro i hi
      obtain rfl : i = 13 := by simpa using hi
      have Q3 := Lib.hid (P2.out.newcel 40 #[.int .i64 0, .int .i64 0, .int .i64 0, .int .i64 0, .int .i64 0])
      refine wpOp_run (v := .pointer (some ⟨X2.heap.size, 0, none⟩)) (w' := X2.alloc (.cells #[.int .i64 0, .int .i64 0, .int .i64 0, .int .i64 0, .int .i64 0] 40)) rfl rfl (by kernel_rfl) ?_
      obtain ⟨X3, hX⟩ : ∃ X3, X2.alloc (.cells #[.int .i64 0, .int .i64 0, .int .i64 0, .int .i64 0, .int .i64 0] 40) = X3 := ⟨_, rfl⟩
      have P3 := Q3
      rw [hX] at P3 ⊢
      clear hX Q3 hS P2
      generalize X2.heap.size = e4 at P3 ⊢
      have hS : (fun X => Blk X b0 37 C.arr ∧ Blk X b1 37 D.arr ∧ Blk X b2 30 (insA ⟨16, a, b, cc, n⟩)) X3 := ⟨P3.out.getc b0, P3.out.getc b1, P3.out.getc b2⟩
      refine ⟨hS, ?_⟩
      have K1 := Lib.hid (P3.out.rowc x4 C5.arr)
      have K2 := Lib.hid (K1.out.rowc e4 E5.arr)
      refine wpAnyH_all (rs := [14]) (by kernel_rfl) (by simp) ?_
      intro i hi
      obtain rfl : i = 14 := by simpa using hi
      refine wpOp_store_row rfl rfl 37 _ _ rfl x4 C5.arr (by kernel_rfl) (by kernel_rfl) 37 #[.int .i64 0, .int .i64 0, .int .i64 0, .int .i64 0, .int .i64 0, .int .i64 0, .int .i64 0, .int .i64 0, .int .i64 0, .int .i64 0, .int .i64 0, .int .i64 0, .int .i64 0, .int .i64 0, .int .i64 0, .int .i64 0, .int .i64 0, .int .i64 0] (P3.out.getc x4) (by kernel_rfl) rfl (by kernel_rfl) ?_
      refine ⟨⟨K1.out.getc b0, K1.out.getc b1, K1.out.getc b2⟩, ?_⟩
      refine wpAnyH_all (rs := [15]) (by kernel_rfl) (by simp) ?_
      intro i hi
      obtain rfl : i = 15 := by simpa using hi
      refine wpOp_store_row rfl rfl 40 _ _ rfl e4 E5.arr (by kernel_rfl) (by kernel_rfl) 40 #[.int .i64 0, .int .i64 0, .int .i64 0, .int .i64 0, .int .i64 0] (K1.out.getc e4) (by kernel_rfl) rfl (by kernel_rfl) ?_
      refine ⟨⟨K2.out.getc b0, K2.out.getc b1, K2.out.getc b2⟩, ?_⟩
      refine wpAnyH_done (by kernel_rfl) ?_ _
      refine NoPanic.normal ?_
      clear hS P3 K1
      obtain ⟨W9, hW9⟩ : ∃ W9, (X3.setRow x4 C5.arr).setRow e4 E5.arr = W9 := ⟨_, rfl⟩
      have M9 := K2
      rw [hW9] at M9 ⊢
      clear hW9 K2
      go_wp2_with fail
      have N0 := Lib.hid (M9.out.stay below_drw)
      have HS0 : (fun X => Blk X x4 37 C5.arr ∧ Blk X e4 40 E5.arr) W9.drew := ⟨N0.out.getc x4, N0.out.getc e4⟩
      refine wp_region_noPanic ?_
      refine wp_region_held_drew (S := fun X => Blk X x4 37 C5.arr ∧ Blk X e4 40 E5.arr) (by kernel_rfl) HS0 ?_
      clear HS0
      intro hS
      refine wpAnyH_take (i := 0) rfl (by kernel_rfl) (by kernel_rfl) (by kernel_rfl) (fun _ _ _ h => h) (yields_load_row rfl 37 _ rfl x4 (by kernel_rfl) 37 C5.arr _ (fun w h => h.1) Try.underlying37 rfl (by kernel_rfl)) hS ?_
      refine wpAnyH_take (i := 1) rfl (by kernel_rfl) (by kernel_rfl) (by kernel_rfl) (fun _ _ _ h => h) (yields_load_row rfl 40 _ rfl e4 (by kernel_rfl) 40 E5.arr _ (fun w h => h.2) Try.underlying40 rfl (by kernel_rfl)) hS ?_
      refine wpAnyH_all (rs := [2]) (by kernel_rfl) (by simp) ?_
      intro i hi
      obtain rfl : i = 2 := by simpa using hi
      have N0s1 := Lib.hid (N0.out.rowc b3 C5.arr)
      refine wpOp_store_row rfl rfl 37 _ _ rfl b3 C5.arr (by kernel_rfl) (by kernel_rfl) 37 #[.int .i64 0, .int .i64 0, .int .i64 0, .int .i64 0, .int .i64 0, .int .i64 0, .int .i64 0, .int .i64 0, .int .i64 0, .int .i64 0, .int .i64 0, .int .i64 0, .int .i64 0, .int .i64 0, .int .i64 0, .int .i64 0, .int .i64 0, .int .i64 0] (N0.out.getc b3) (by kernel_rfl) rfl (by kernel_rfl) ?_
      have hS1 : (fun X => Blk X x4 37 C5.arr ∧ Blk X e4 40 E5.arr) _ := ⟨N0s1.out.getc x4, N0s1.out.getc e4⟩
      refine ⟨hS1, ?_⟩
      refine wpAnyH_all (rs := [3]) (by kernel_rfl) (by simp) ?_
      intro i hi
      obtain rfl : i = 3 := by simpa using hi
      have N0s2 := Lib.hid (N0s1.out.rowc b4 E5.arr)
      refine wpOp_store_row rfl rfl 40 _ _ rfl b4 E5.arr (by kernel_rfl) (by kernel_rfl) 40 #[.int .i64 0, .int .i64 0, .int .i64 0, .int .i64 0, .int .i64 0] (N0s1.out.getc b4) (by kernel_rfl) rfl (by kernel_rfl) ?_
      have hS2 : (fun X => Blk X x4 37 C5.arr ∧ Blk X e4 40 E5.arr) _ := ⟨N0s2.out.getc x4, N0s2.out.getc e4⟩
      refine ⟨hS2, ?_⟩
      refine wpAnyH_take (i := 4) (v := .bool true) rfl (by kernel_rfl) (by kernel_rfl) (by kernel_rfl) (fun _ _ _ h => h) (yields_pure rfl (fun w => by kernel_rfl)) hS2 ?_
      refine wpAnyH_done (by kernel_rfl) ?_ _
      refine NoPanic.normal ?_
      go_wp2
      try simp only [Exit.inBlock, Exit.then]
      refine bodyPost_ret (results_cell3_row (p := 8) (u := 9) (q := 10) (ty := 37) (uy := 40) rfl _ _ b3 b4 37 40 C5.arr E5.arr _ _ (by kernel_rfl) (N0s2.out.getc b3) Try.underlying37 rfl (by kernel_rfl) (by kernel_rfl) (N0s2.out.getc b4) Try.underlying40 rfl (by kernel_rfl) (.bool true) (by kernel_rfl)) rfl ?_
      exact ⟨by rw [HE.out]; first | done | rfl, by rw [HE.out]; exact N0s2.out.back (Rf c L5) Y⟩
    · have Q2 := Lib.hid (P1.out.newcel 40 #[.int .i64 0, .int .i64 0, .int .i64 0, .int .i64 0, .int .i64 0])
      refine wpOp_run (v := .pointer (some ⟨X1.heap.size, 0, none⟩)) (w' := X1.alloc (.cells #[.int .i64 0, .int .i64 0, .int .i64 0, .int .i64 0, .int .i64 0] 40)) rfl rfl (by kernel_rfl) ?_
      obtain ⟨X2, hX⟩ : ∃ X2, X1.alloc (.cells #[.int .i64 0, .int .i64 0, .int .i64 0, .int .i64 0, .int .i64 0] 40) = X2 := ⟨_, rfl⟩
      have P2 := Q2
      rw [hX] at P2 ⊢
      clear hX Q2 hS P1
      generalize X1.heap.size = e4 at P2 ⊢
      have hS : (fun X => Blk X b0 37 C.arr ∧ Blk X b1 37 D.arr ∧ Blk X b2 30 (insA ⟨16, a, b, cc, n⟩)) X2 := ⟨P2.out.getc b0, P2.out.getc b1, P2.out.getc b2⟩
      refine ⟨hS, ?_⟩
      refine wpAnyH_all (rs := [8]) (by kernel_rfl) (by simp) ?_
      intro i hi
      obtain rfl : i = 8 := by simpa using hi
      refine wpOp_call rfl rfl _ _ _ rfl _ (by kernel_rfl) ((CS.out _ _ inferInstance (P2.out.pick (Rf c L))).mono ?_)
      rintro e X3 ⟨rfl, m3⟩
      have P3 := Lib.hid m3
      clear m3 hS P2
      have hS : (fun X => Blk X b0 37 C.arr ∧ Blk X b1 37 D.arr ∧ Blk X b2 30 (insA ⟨16, a, b, cc, n⟩)) X3 := ⟨P3.out.getc b0, P3.out.getc b1, P3.out.getc b2⟩
      refine ⟨_, rfl, hS, ?_⟩
      refine wpAnyH_take (i := 9) (v := .tuple #[.agg C5.arr, .agg E5.arr]) rfl (by kernel_rfl) (by kernel_rfl) (by kernel_rfl) (fun _ _ _ h => h) (yields_pure rfl (fun w => by kernel_rfl)) hS ?_
      refine wpAnyH_take (i := 10) (v := .agg C5.arr) rfl (by kernel_rfl) (by kernel_rfl) (by kernel_rfl) (fun _ _ _ h => h) (yields_pure rfl (fun w => by kernel_rfl)) hS ?_
      refine wpAnyH_take (i := 11) (v := .agg E5.arr) rfl (by kernel_rfl) (by kernel_rfl) (by kernel_rfl) (fun _ _ _ h => h) (yields_pure rfl (fun w => by kernel_rfl)) hS ?_
      have K1 := Lib.hid (P3.out.rowc x4 C5.arr)
      have K2 := Lib.hid (K1.out.rowc e4 E5.arr)
      refine wpAnyH_all (rs := [14]) (by kernel_rfl) (by simp) ?_
      intro i hi
      obtain rfl : i = 14 := by simpa using hi
      refine wpOp_store_row rfl rfl 37 _ _ rfl x4 C5.arr (by kernel_rfl) (by kernel_rfl) 37 #[.int .i64 0, .int .i64 0, .int .i64 0, .int .i64 0, .int .i64 0, .int .i64 0, .int .i64 0, .int .i64 0, .int .i64 0, .int .i64 0, .int .i64 0, .int .i64 0, .int .i64 0, .int .i64 0, .int .i64 0, .int .i64 0, .int .i64 0, .int .i64 0] (P3.out.getc x4) (by kernel_rfl) rfl (by kernel_rfl) ?_
      refine ⟨⟨K1.out.getc b0, K1.out.getc b1, K1.out.getc b2⟩, ?_⟩
      refine wpAnyH_all (rs := [15]) (by kernel_rfl) (by simp) ?_
      intro i hi
      obtain rfl : i = 15 := by simpa using hi
      refine wpOp_store_row rfl rfl 40 _ _ rfl e4 E5.arr (by kernel_rfl) (by kernel_rfl) 40 #[.int .i64 0, .int .i64 0, .int .i64 0, .int .i64 0, .int .i64 0] (K1.out.getc e4) (by kernel_rfl) rfl (by kernel_rfl) ?_
      refine ⟨⟨K2.out.getc b0, K2.out.getc b1, K2.out.getc b2⟩, ?_⟩
      refine wpAnyH_done (by kernel_rfl) ?_ _
      refine NoPanic.normal ?_
      clear hS P3 K1
      obtain ⟨W9, hW9⟩ : ∃ W9, (X3.setRow x4 C5.arr).setRow e4 E5.arr = W9 := ⟨_, rfl⟩
      have M9 := K2
      rw [hW9] at M9 ⊢
      clear hW9 K2
      go_wp2_with fail
      have N0 := Lib.hid (M9.out.stay below_drw)
      have HS0 : (fun X => Blk X x4 37 C5.arr ∧ Blk X e4 40 E5.arr) W9.drew := ⟨N0.out.getc x4, N0.out.getc e4⟩
      refine wp_region_noPanic ?_
      refine wp_region_held_drew (S := fun X => Blk X x4 37 C5.arr ∧ Blk X e4 40 E5.arr) (by kernel_rfl) HS0 ?_
      clear HS0
      intro hS
      refine wpAnyH_take (i := 0) rfl (by kernel_rfl) (by kernel_rfl) (by kernel_rfl) (fun _ _ _ h => h) (yields_load_row rfl 37 _ rfl x4 (by kernel_rfl) 37 C5.arr _ (fun w h => h.1) Try.underlying37 rfl (by kernel_rfl)) hS ?_
      refine wpAnyH_take (i := 1) rfl (by kernel_rfl) (by kernel_rfl) (by kernel_rfl) (fun _ _ _ h => h) (yields_load_row rfl 40 _ rfl e4 (by kernel_rfl) 40 E5.arr _ (fun w h => h.2) Try.underlying40 rfl (by kernel_rfl)) hS ?_
      refine wpAnyH_all (rs := [2]) (by kernel_rfl) (by simp) ?_
      intro i hi
      obtain rfl : i = 2 := by simpa using hi
      have N0s1 := Lib.hid (N0.out.rowc b3 C5.arr)
      refine wpOp_store_row rfl rfl 37 _ _ rfl b3 C5.arr (by kernel_rfl) (by kernel_rfl) 37 #[.int .i64 0, .int .i64 0, .int .i64 0, .int .i64 0, .int .i64 0, .int .i64 0, .int .i64 0, .int .i64 0, .int .i64 0, .int .i64 0, .int .i64 0, .int .i64 0, .int .i64 0, .int .i64 0, .int .i64 0, .int .i64 0, .int .i64 0, .int .i64 0] (N0.out.getc b3) (by kernel_rfl) rfl (by kernel_rfl) ?_
      have hS1 : (fun X => Blk X x4 37 C5.arr ∧ Blk X e4 40 E5.arr) _ := ⟨N0s1.out.getc x4, N0s1.out.getc e4⟩
      refine ⟨hS1, ?_⟩
      refine wpAnyH_all (rs := [3]) (by kernel_rfl) (by simp) ?_
      intro i hi
      obtain rfl : i = 3 := by simpa using hi
      have N0s2 := Lib.hid (N0s1.out.rowc b4 E5.arr)
      refine wpOp_store_row rfl rfl 40 _ _ rfl b4 E5.arr (by kernel_rfl) (by kernel_rfl) 40 #[.int .i64 0, .int .i64 0, .int .i64 0, .int .i64 0, .int .i64 0] (N0s1.out.getc b4) (by kernel_rfl) rfl (by kernel_rfl) ?_
      have hS2 : (fun X => Blk X x4 37 C5.arr ∧ Blk X e4 40 E5.arr) _ := ⟨N0s2.out.getc x4, N0s2.out.getc e4⟩
      refine ⟨hS2, ?_⟩
      refine wpAnyH_take (i := 4) (v := .bool true) rfl (by kernel_rfl) (by kernel_rfl) (by kernel_rfl) (fun _ _ _ h => h) (yields_pure rfl (fun w => by kernel_rfl)) hS2 ?_
      refine wpAnyH_done (by kernel_rfl) ?_ _
      refine NoPanic.normal ?_
      go_wp2
      try simp only [Exit.inBlock, Exit.then]
      refine bodyPost_ret (results_cell3_row (p := 8) (u := 9) (q := 10) (ty := 37) (uy := 40) rfl _ _ b3 b4 37 40 C5.arr E5.arr _ _ (by kernel_rfl) (N0s2.out.getc b3) Try.underlying37 rfl (by kernel_rfl) (by kernel_rfl) (N0s2.out.getc b4) Try.underlying40 rfl (by kernel_rfl) (.bool true) (by kernel_rfl)) rfl ?_
      exact ⟨by rw [HE.out]; first | done | rfl, by rw [HE.out]; exact N0s2.out.back (Rf c L5) Y⟩
  · have Q1 := Lib.hid (N0.out.newcel 40 #[.int .i64 0, .int .i64 0, .int .i64 0, .int .i64 0, .int .i64 0])
    refine wpOp_run (v := .pointer (some ⟨W1.drew.heap.size, 0, none⟩)) (w' := W1.drew.alloc (.cells #[.int .i64 0, .int .i64 0, .int .i64 0, .int .i64 0, .int .i64 0] 40)) rfl rfl (by kernel_rfl) ?_
    obtain ⟨X1, hX⟩ : ∃ X1, W1.drew.alloc (.cells #[.int .i64 0, .int .i64 0, .int .i64 0, .int .i64 0, .int .i64 0] 40) = X1 := ⟨_, rfl⟩
    have P1 := Q1
    rw [hX] at P1 ⊢
    clear hX Q1 hS N0
    generalize W1.drew.heap.size = e4 at P1 ⊢
    have hS : (fun X => Blk X b0 37 C.arr ∧ Blk X b1 37 D.arr ∧ Blk X b2 30 (insA ⟨16, a, b, cc, n⟩)) X1 := ⟨P1.out.getc b0, P1.out.getc b1, P1.out.getc b2⟩
    refine ⟨hS, ?_⟩
    refine wpAnyH_all (rs := [8, 12]) (by kernel_rfl) (by simp) ?_
    intro i hi
    obtain rfl | rfl : i = 8 ∨ i = 12 := by simpa using hi
    · refine wpOp_call rfl rfl _ _ _ rfl _ (by kernel_rfl) ((CS.out _ _ inferInstance (P1.out.pick (Rf c L))).mono ?_)
      rintro e X2 ⟨rfl, m2⟩
      have P2 := Lib.hid m2
      clear m2 hS P1
      have hS : (fun X => Blk X b0 37 C.arr ∧ Blk X b1 37 D.arr ∧ Blk X b2 30 (insA ⟨16, a, b, cc, n⟩)) X2 := ⟨P2.out.getc b0, P2.out.getc b1, P2.out.getc b2⟩
      refine ⟨_, rfl, hS, ?_⟩
      refine wpAnyH_take (i := 9) (v := .tuple #[.agg C5.arr, .agg E5.arr]) rfl (by kernel_rfl) (by kernel_rfl) (by kernel_rfl) (fun _ _ _ h => h) (yields_pure rfl (fun w => by kernel_rfl)) hS ?_
      refine wpAnyH_take (i := 10) (v := .agg C5.arr) rfl (by kernel_rfl) (by kernel_rfl) (by kernel_rfl) (fun _ _ _ h => h) (yields_pure rfl (fun w => by kernel_rfl)) hS ?_
      refine wpAnyH_take (i := 11) (v := .agg E5.arr) rfl (by kernel_rfl) (by kernel_rfl) (by kernel_rfl) (fun _ _ _ h => h) (yields_pure rfl (fun w => by kernel_rfl)) hS ?_
      refine wpAnyH_all (rs := [12]) (by kernel_rfl) (by simp) ?_
      intro i hi
      obtain rfl : i = 12 := by simpa using hi
      have Q3 := Lib.hid (P2.out.newcel 37 #[.int .i64 0, .int .i64 0, .int .i64 0, .int .i64 0, .int .i64 0, .int .i64 0, .int .i64 0, .int .i64 0, .int .i64 0, .int .i64 0, .int .i64 0, .int .i64 0, .int .i64 0, .int .i64 0, .int .i64 0, .int .i64 0, .int .i64 0, .int .i64 0])
      refine wpOp_run (v := .pointer (some ⟨X2.heap.size, 0, none⟩)) (w' := X2.alloc (.cells #[.int .i64 0, .int .i64 0, .int .i64 0, .int .i64 0, .int .i64 0, .int .i64 0, .int .i64 0, .int .i64 0, .int .i64 0, .int .i64 0, .int .i64 0, .int .i64 0, .int .i64 0, .int .i64 0, .int .i64 0, .int .i64 0, .int .i64 0, .int .i64 0] 37)) rfl rfl (by kernel_rfl) ?_
      obtain ⟨X3, hX⟩ : ∃ X3, X2.alloc (.cells #[.int .i64 0, .int .i64 0, .int .i64 0, .int .i64 0, .int .i64 0, .int .i64 0, .int .i64 0, .int .i64 0, .int .i64 0, .int .i64 0, .int .i64 0, .int .i64 0, .int .i64 0, .int .i64 0, .int .i64 0, .int .i64 0, .int .i64 0, .int .i64 0] 37) = X3 := ⟨_, rfl⟩
      have P3 := Q3
      rw [hX] at P3 ⊢
      clear hX Q3 hS P2
      generalize X2.heap.size = x4 at P3 ⊢
      have hS : (fun X => Blk X b0 37 C.arr ∧ Blk X b1 37 D.arr ∧ Blk X b2 30 (insA ⟨16, a, b, cc, n⟩)) X3 := ⟨P3.out.getc b0, P3.out.getc b1, P3.out.getc b2⟩
      refine ⟨hS, ?_⟩
      have K1 := Lib.hid (P3.out.rowc x4 C5.arr)
      have K2 := Lib.hid (K1.out.rowc e4 E5.arr)
      refine wpAnyH_all (rs := [14]) (by kernel_rfl) (by simp) ?_
      intro i hi
      obtain rfl : i = 14 := by simpa using hi
      refine wpOp_store_row rfl rfl 37 _ _ rfl x4 C5.arr (by kernel_rfl) (by kernel_rfl) 37 #[.int .i64 0, .int .i64 0, .int .i64 0, .int .i64 0, .int .i64 0, .int .i64 0, .int .i64 0, .int .i64 0, .int .i64 0, .int .i64 0, .int .i64 0, .int .i64 0, .int .i64 0, .int .i64 0, .int .i64 0, .int .i64 0, .int .i64 0, .int .i64 0] (P3.out.getc x4) (by kernel_rfl) rfl (by kernel_rfl) ?_
      refine ⟨⟨K1.out.getc b0, K1.out.getc b1, K1.out.getc b2⟩, ?_⟩
      refine wpAnyH_all (rs := [15]) (by kernel_rfl) (by simp) ?_
      intro i hi
      obtain rfl : i = 15 := by simpa using hi
      refine wpOp_store_row rfl rfl 40 _ _ rfl e4 E5.arr (by kernel_rfl) (by kernel_rfl) 40 #[.int .i64 0, .int .i64 0, .int .i64 0, .int .i64 0, .int .i64 0] (K1.out.getc e4) (by kernel_rfl) rfl (by kernel_rfl) ?_
      refine ⟨⟨K2.out.getc b0, K2.out.getc b1, K2.out.getc b2⟩, ?_⟩
      refine wpAnyH_done (by kernel_rfl) ?_ _
      refine NoPanic.normal ?_
      clear hS P3 K1
      obtain ⟨W9, hW9⟩ : ∃ W9, (X3.setRow x4 C5.arr).setRow e4 E5.arr = W9 := ⟨_, rfl⟩
      have M9 := K2
      rw [hW9] at M9 ⊢
      clear hW9 K2
      go_wp2_with fail
      have N0 := Lib.hid (M9.out.stay below_drw)
      have HS0 : (fun X => Blk X x4 37 C5.arr ∧ Blk X e4 40 E5.arr) W9.drew := ⟨N0.out.getc x4, N0.out.getc e4⟩
      refine wp_region_noPanic ?_
      refine wp_region_held_drew (S := fun X => Blk X x4 37 C5.arr ∧ Blk X e4 40 E5.arr) (by kernel_rfl) HS0 ?_
      clear HS0
      intro hS
      refine wpAnyH_take (i := 0) rfl (by kernel_rfl) (by kernel_rfl) (by kernel_rfl) (fun _ _ _ h => h) (yields_load_row rfl 37 _ rfl x4 (by kernel_rfl) 37 C5.arr _ (fun w h => h.1) Try.underlying37 rfl (by kernel_rfl)) hS ?_
      refine wpAnyH_take (i := 1) rfl (by kernel_rfl) (by kernel_rfl) (by kernel_rfl) (fun _ _ _ h => h) (yields_load_row rfl 40 _ rfl e4 (by kernel_rfl) 40 E5.arr _ (fun w h => h.2) Try.underlying40 rfl (by kernel_rfl)) hS ?_
      refine wpAnyH_all (rs := [2]) (by kernel_rfl) (by simp) ?_
      intro i hi
      obtain rfl : i = 2 := by simpa using hi
      have N0s1 := Lib.hid (N0.out.rowc b3 C5.arr)
      refine wpOp_store_row rfl rfl 37 _ _ rfl b3 C5.arr (by kernel_rfl) (by kernel_rfl) 37 #[.int .i64 0, .int .i64 0, .int .i64 0, .int .i64 0, .int .i64 0, .int .i64 0, .int .i64 0, .int .i64 0, .int .i64 0, .int .i64 0, .int .i64 0, .int .i64 0, .int .i64 0, .int .i64 0, .int .i64 0, .int .i64 0, .int .i64 0, .int .i64 0] (N0.out.getc b3) (by kernel_rfl) rfl (by kernel_rfl) ?_
      have hS1 : (fun X => Blk X x4 37 C5.arr ∧ Blk X e4 40 E5.arr) _ := ⟨N0s1.out.getc x4, N0s1.out.getc e4⟩
      refine ⟨hS1, ?_⟩
      refine wpAnyH_all (rs := [3]) (by kernel_rfl) (by simp) ?_
      intro i hi
      obtain rfl : i = 3 := by simpa using hi
      have N0s2 := Lib.hid (N0s1.out.rowc b4 E5.arr)
      refine wpOp_store_row rfl rfl 40 _ _ rfl b4 E5.arr (by kernel_rfl) (by kernel_rfl) 40 #[.int .i64 0, .int .i64 0, .int .i64 0, .int .i64 0, .int .i64 0] (N0s1.out.getc b4) (by kernel_rfl) rfl (by kernel_rfl) ?_
      have hS2 : (fun X => Blk X x4 37 C5.arr ∧ Blk X e4 40 E5.arr) _ := ⟨N0s2.out.getc x4, N0s2.out.getc e4⟩
      refine ⟨hS2, ?_⟩
      refine wpAnyH_take (i := 4) (v := .bool true) rfl (by kernel_rfl) (by kernel_rfl) (by kernel_rfl) (fun _ _ _ h => h) (yields_pure rfl (fun w => by kernel_rfl)) hS2 ?_
      refine wpAnyH_done (by kernel_rfl) ?_ _
      refine NoPanic.normal ?_
      go_wp2
      try simp only [Exit.inBlock, Exit.then]
      refine bodyPost_ret (results_cell3_row (p := 8) (u := 9) (q := 10) (ty := 37) (uy := 40) rfl _ _ b3 b4 37 40 C5.arr E5.arr _ _ (by kernel_rfl) (N0s2.out.getc b3) Try.underlying37 rfl (by kernel_rfl) (by kernel_rfl) (N0s2.out.getc b4) Try.underlying40 rfl (by kernel_rfl) (.bool true) (by kernel_rfl)) rfl ?_
      exact ⟨by rw [HE.out]; first | done | rfl, by rw [HE.out]; exact N0s2.out.back (Rf c L5) Y⟩
    · have Q2 := Lib.hid (P1.out.newcel 37 #[.int .i64 0, .int .i64 0, .int .i64 0, .int .i64 0, .int .i64 0, .int .i64 0, .int .i64 0, .int .i64 0, .int .i64 0, .int .i64 0, .int .i64 0, .int .i64 0, .int .i64 0, .int .i64 0, .int .i64 0, .int .i64 0, .int .i64 0, .int .i64 0])
      refine wpOp_run (v := .pointer (some ⟨X1.heap.size, 0, none⟩)) (w' := X1.alloc (.cells #[.int .i64 0, .int .i64 0, .int .i64 0, .int .i64 0, .int .i64 0, .int .i64 0, .int .i64 0, .int .i64 0, .int .i64 0, .int .i64 0, .int .i64 0, .int .i64 0, .int .i64 0, .int .i64 0, .int .i64 0, .int .i64 0, .int .i64 0, .int .i64 0] 37)) rfl rfl (by kernel_rfl) ?_
      obtain ⟨X2, hX⟩ : ∃ X2, X1.alloc (.cells #[.int .i64 0, .int .i64 0, .int .i64 0, .int .i64 0, .int .i64 0, .int .i64 0, .int .i64 0, .int .i64 0, .int .i64 0, .int .i64 0, .int .i64 0, .int .i64 0, .int .i64 0, .int .i64 0, .int .i64 0, .int .i64 0, .int .i64 0, .int .i64 0] 37) = X2 := ⟨_, rfl⟩
      have P2 := Q2
      rw [hX] at P2 ⊢
      clear hX Q2 hS P1
      generalize X1.heap.size = x4 at P2 ⊢
      have hS : (fun X => Blk X b0 37 C.arr ∧ Blk X b1 37 D.arr ∧ Blk X b2 30 (insA ⟨16, a, b, cc, n⟩)) X2 := ⟨P2.out.getc b0, P2.out.getc b1, P2.out.getc b2⟩
      refine ⟨hS, ?_⟩
      refine wpAnyH_all (rs := [8]) (by kernel_rfl) (by simp) ?_
      intro i hi
      obtain rfl : i = 8 := by simpa using hi
      refine wpOp_call rfl rfl _ _ _ rfl _ (by kernel_rfl) ((CS.out _ _ inferInstance (P2.out.pick (Rf c L))).mono ?_)
      rintro e X3 ⟨rfl, m3⟩
      have P3 := Lib.hid m3
      clear m3 hS P2
      have hS : (fun X => Blk X b0 37 C.arr ∧ Blk X b1 37 D.arr ∧ Blk X b2 30 (insA ⟨16, a, b, cc, n⟩)) X3 := ⟨P3.out.getc b0, P3.out.getc b1, P3.out.getc b2⟩
      refine ⟨_, rfl, hS, ?_⟩
      refine wpAnyH_take (i := 9) (v := .tuple #[.agg C5.arr, .agg E5.arr]) rfl (by kernel_rfl) (by kernel_rfl) (by kernel_rfl) (fun _ _ _ h => h) (yields_pure rfl (fun w => by kernel_rfl)) hS ?_
      refine wpAnyH_take (i := 10) (v := .agg C5.arr) rfl (by kernel_rfl) (by kernel_rfl) (by kernel_rfl) (fun _ _ _ h => h) (yields_pure rfl (fun w => by kernel_rfl)) hS ?_
      refine wpAnyH_take (i := 11) (v := .agg E5.arr) rfl (by kernel_rfl) (by kernel_rfl) (by kernel_rfl) (fun _ _ _ h => h) (yields_pure rfl (fun w => by kernel_rfl)) hS ?_
      have K1 := Lib.hid (P3.out.rowc x4 C5.arr)
      have K2 := Lib.hid (K1.out.rowc e4 E5.arr)
      refine wpAnyH_all (rs := [14]) (by kernel_rfl) (by simp) ?_
      intro i hi
      obtain rfl : i = 14 := by simpa using hi
      refine wpOp_store_row rfl rfl 37 _ _ rfl x4 C5.arr (by kernel_rfl) (by kernel_rfl) 37 #[.int .i64 0, .int .i64 0, .int .i64 0, .int .i64 0, .int .i64 0, .int .i64 0, .int .i64 0, .int .i64 0, .int .i64 0, .int .i64 0, .int .i64 0, .int .i64 0, .int .i64 0, .int .i64 0, .int .i64 0, .int .i64 0, .int .i64 0, .int .i64 0] (P3.out.getc x4) (by kernel_rfl) rfl (by kernel_rfl) ?_
      refine ⟨⟨K1.out.getc b0, K1.out.getc b1, K1.out.getc b2⟩, ?_⟩
      refine wpAnyH_all (rs := [15]) (by kernel_rfl) (by simp) ?_
      intro i hi
      obtain rfl : i = 15 := by simpa using hi
      refine wpOp_store_row rfl rfl 40 _ _ rfl e4 E5.arr (by kernel_rfl) (by kernel_rfl) 40 #[.int .i64 0, .int .i64 0, .int .i64 0, .int .i64 0, .int .i64 0] (K1.out.getc e4) (by kernel_rfl) rfl (by kernel_rfl) ?_
      refine ⟨⟨K2.out.getc b0, K2.out.getc b1, K2.out.getc b2⟩, ?_⟩
      refine wpAnyH_done (by kernel_rfl) ?_ _
      refine NoPanic.normal ?_
      clear hS P3 K1
      obtain ⟨W9, hW9⟩ : ∃ W9, (X3.setRow x4 C5.arr).setRow e4 E5.arr = W9 := ⟨_, rfl⟩
      have M9 := K2
      rw [hW9] at M9 ⊢
      clear hW9 K2
      go_wp2_with fail
      have N0 := Lib.hid (M9.out.stay below_drw)
      have HS0 : (fun X => Blk X x4 37 C5.arr ∧ Blk X e4 40 E5.arr) W9.drew := ⟨N0.out.getc x4, N0.out.getc e4⟩
      refine wp_region_noPanic ?_
      refine wp_region_held_drew (S := fun X => Blk X x4 37 C5.arr ∧ Blk X e4 40 E5.arr) (by kernel_rfl) HS0 ?_
      clear HS0
      intro hS
      refine wpAnyH_take (i := 0) rfl (by kernel_rfl) (by kernel_rfl) (by kernel_rfl) (fun _ _ _ h => h) (yields_load_row rfl 37 _ rfl x4 (by kernel_rfl) 37 C5.arr _ (fun w h => h.1) Try.underlying37 rfl (by kernel_rfl)) hS ?_
      refine wpAnyH_take (i := 1) rfl (by kernel_rfl) (by kernel_rfl) (by kernel_rfl) (fun _ _ _ h => h) (yields_load_row rfl 40 _ rfl e4 (by kernel_rfl) 40 E5.arr _ (fun w h => h.2) Try.underlying40 rfl (by kernel_rfl)) hS ?_
      refine wpAnyH_all (rs := [2]) (by kernel_rfl) (by simp) ?_
      intro i hi
      obtain rfl : i = 2 := by simpa using hi
      have N0s1 := Lib.hid (N0.out.rowc b3 C5.arr)
      refine wpOp_store_row rfl rfl 37 _ _ rfl b3 C5.arr (by kernel_rfl) (by kernel_rfl) 37 #[.int .i64 0, .int .i64 0, .int .i64 0, .int .i64 0, .int .i64 0, .int .i64 0, .int .i64 0, .int .i64 0, .int .i64 0, .int .i64 0, .int .i64 0, .int .i64 0, .int .i64 0, .int .i64 0, .int .i64 0, .int .i64 0, .int .i64 0, .int .i64 0] (N0.out.getc b3) (by kernel_rfl) rfl (by kernel_rfl) ?_
      have hS1 : (fun X => Blk X x4 37 C5.arr ∧ Blk X e4 40 E5.arr) _ := ⟨N0s1.out.getc x4, N0s1.out.getc e4⟩
      refine ⟨hS1, ?_⟩
      refine wpAnyH_all (rs := [3]) (by kernel_rfl) (by simp) ?_
      intro i hi
      obtain rfl : i = 3 := by simpa using hi
      have N0s2 := Lib.hid (N0s1.out.rowc b4 E5.arr)
      refine wpOp_store_row rfl rfl 40 _ _ rfl b4 E5.arr (by kernel_rfl) (by kernel_rfl) 40 #[.int .i64 0, .int .i64 0, .int .i64 0, .int .i64 0, .int .i64 0] (N0s1.out.getc b4) (by kernel_rfl) rfl (by kernel_rfl) ?_
      have hS2 : (fun X => Blk X x4 37 C5.arr ∧ Blk X e4 40 E5.arr) _ := ⟨N0s2.out.getc x4, N0s2.out.getc e4⟩
      refine ⟨hS2, ?_⟩
      refine wpAnyH_take (i := 4) (v := .bool true) rfl (by kernel_rfl) (by kernel_rfl) (by kernel_rfl) (fun _ _ _ h => h) (yields_pure rfl (fun w => by kernel_rfl)) hS2 ?_
      refine wpAnyH_done (by kernel_rfl) ?_ _
      refine NoPanic.normal ?_
      go_wp2
      try simp only [Exit.inBlock, Exit.then]
      refine bodyPost_ret (results_cell3_row (p := 8) (u := 9) (q := 10) (ty := 37) (uy := 40) rfl _ _ b3 b4 37 40 C5.arr E5.arr _ _ (by kernel_rfl) (N0s2.out.getc b3) Try.underlying37 rfl (by kernel_rfl) (by kernel_rfl) (N0s2.out.getc b4) Try.underlying40 rfl (by kernel_rfl) (.bool true) (by kernel_rfl)) rfl ?_
      exact ⟨by rw [HE.out]; first | done | rfl, by rw [HE.out]; exact N0s2.out.back (Rf c L5) Y⟩
end
end Go.Proofs.Ytkpaeogjefjbfaa
