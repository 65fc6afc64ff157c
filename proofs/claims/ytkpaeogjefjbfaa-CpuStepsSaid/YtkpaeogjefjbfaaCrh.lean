/-
  Layer 6: the document's step: loads, stores, reckoning.
  Conditions: none. (My own text.)
-/
import Derived.Test.YtkpaeogjefjbfaaCry
namespace Go.Proofs.Ytkpaeogjefjbfaa
open Go.RowKit Spm
set_option linter.unusedVariables false
set_option linter.unusedSimpArgs false

def stoC (C D : Ctx) (q : Int) : Ctx := if q = 0 then C else D
def rknS (C D : Ctx) (L : List Rg) (a : Nat) (q : Int × Int) : Ctx × Evt × List Rg := if q.2 = 0 then ({ C with r := upd C.r a q.1 }, ev0, L) else (D, trapV 1, L)
section
variable {B : Nat} {w wr w' : World} {c : Nat} {L : List Rg} {Y : Res}
set_option maxRecDepth 100000 in
set_option maxHeartbeats 4000000 in
theorem rstep_ldp [hY : Fr Y] (h : Has B w wr (Star (Rf c L) Y)) (D : Ctx) (hC : CtxOk D) (C : Ctx) (hCD : { D with pc := wrap64 (D.pc + 8) } = C) {a b cc : Nat} (ha : a < 16) (hb : b < 16) (hcc : cc < 16) (n : Int) (h0 : D.pc ≠ 0) (HT : toldS D L = (⟨11, a, b, cc, n⟩, 0)) (HJ : ∀ (w1 : World) (Y2 : Res) (hY2 : Fr Y2), Has B w w1 (Star (Rf c L) Y2) → Calls Try.prog 36 #[.agg (Ctx.arr C), .agg D.arr, .pointer (some ⟨c, 0, none⟩), .agg (insA ⟨11, a, b, cc, n⟩)] w1 (JumpE B w c (C, ev0, false, L) Y2)) (E6 : Evt) (HA : ∀ w1 : World, Calls Try.prog 37 #[.agg (insA ⟨11, a, b, cc, n⟩), .agg (Ctx.arr C)] w1 fun e w' => e = .returned (.tuple #[.agg E6.arr, .bool false]) ∧ Below w1.heap.size w1 w') : Calls Try.prog 18 #[.agg D.arr, .pointer (some ⟨c, 0, none⟩)] wr (StepE B w c ((loadedS C D L a (wrap64 (C.pc + n))).1, (loadedS C D L a (wrap64 (C.pc + n))).2, L) Y) := by
  have HC := Lib.hid hC
  clear hC
  have HCQ := Lib.hid hCD
  clear hCD
  rw [show D.arr = #[.int .i64 D.pc, .int .i64 D.tp, .int .i64 (D.r 0), .int .i64 (D.r 1), .int .i64 (D.r 2), .int .i64 (D.r 3), .int .i64 (D.r 4), .int .i64 (D.r 5), .int .i64 (D.r 6), .int .i64 (D.r 7), .int .i64 (D.r 8), .int .i64 (D.r 9), .int .i64 (D.r 10), .int .i64 (D.r 11), .int .i64 (D.r 12), .int .i64 (D.r 13), .int .i64 (D.r 14), .int .i64 (D.r 15)] from rfl]
  have M0 := Lib.hid (((h.newcel 37 #[.int .i64 D.pc, .int .i64 D.tp, .int .i64 (D.r 0), .int .i64 (D.r 1), .int .i64 (D.r 2), .int .i64 (D.r 3), .int .i64 (D.r 4), .int .i64 (D.r 5), .int .i64 (D.r 6), .int .i64 (D.r 7), .int .i64 (D.r 8), .int .i64 (D.r 9), .int .i64 (D.r 10), .int .i64 (D.r 11), .int .i64 (D.r 12), .int .i64 (D.r 13), .int .i64 (D.r 14), .int .i64 (D.r 15)]).newcel 37 #[.int .i64 0, .int .i64 0, .int .i64 0, .int .i64 0, .int .i64 0, .int .i64 0, .int .i64 0, .int .i64 0, .int .i64 0, .int .i64 0, .int .i64 0, .int .i64 0, .int .i64 0, .int .i64 0, .int .i64 0, .int .i64 0, .int .i64 0, .int .i64 0]).newcel 40 #[.int .i64 0, .int .i64 0, .int .i64 0, .int .i64 0, .int .i64 0])
  go_enter Try.func18, Try.ntmps18
  go_upto_region 1 with (fail)
  have e1 : (wr.alloc (.cells #[.int .i64 D.pc, .int .i64 D.tp, .int .i64 (D.r 0), .int .i64 (D.r 1), .int .i64 (D.r 2), .int .i64 (D.r 3), .int .i64 (D.r 4), .int .i64 (D.r 5), .int .i64 (D.r 6), .int .i64 (D.r 7), .int .i64 (D.r 8), .int .i64 (D.r 9), .int .i64 (D.r 10), .int .i64 (D.r 11), .int .i64 (D.r 12), .int .i64 (D.r 13), .int .i64 (D.r 14), .int .i64 (D.r 15)] 37)).heap.size = wr.heap.size + 1 := by simp
  have e2 : ((wr.alloc (.cells #[.int .i64 D.pc, .int .i64 D.tp, .int .i64 (D.r 0), .int .i64 (D.r 1), .int .i64 (D.r 2), .int .i64 (D.r 3), .int .i64 (D.r 4), .int .i64 (D.r 5), .int .i64 (D.r 6), .int .i64 (D.r 7), .int .i64 (D.r 8), .int .i64 (D.r 9), .int .i64 (D.r 10), .int .i64 (D.r 11), .int .i64 (D.r 12), .int .i64 (D.r 13), .int .i64 (D.r 14), .int .i64 (D.r 15)] 37)).alloc (.cells #[.int .i64 0, .int .i64 0, .int .i64 0, .int .i64 0, .int .i64 0, .int .i64 0, .int .i64 0, .int .i64 0, .int .i64 0, .int .i64 0, .int .i64 0, .int .i64 0, .int .i64 0, .int .i64 0, .int .i64 0, .int .i64 0, .int .i64 0, .int .i64 0] 37)).heap.size = wr.heap.size + 1 + 1 := by simp
  rw [e2, e1] at M0
  obtain ⟨W, hW⟩ : ∃ W, (((wr.alloc (.cells #[.int .i64 D.pc, .int .i64 D.tp, .int .i64 (D.r 0), .int .i64 (D.r 1), .int .i64 (D.r 2), .int .i64 (D.r 3), .int .i64 (D.r 4), .int .i64 (D.r 5), .int .i64 (D.r 6), .int .i64 (D.r 7), .int .i64 (D.r 8), .int .i64 (D.r 9), .int .i64 (D.r 10), .int .i64 (D.r 11), .int .i64 (D.r 12), .int .i64 (D.r 13), .int .i64 (D.r 14), .int .i64 (D.r 15)] 37)).alloc (.cells #[.int .i64 0, .int .i64 0, .int .i64 0, .int .i64 0, .int .i64 0, .int .i64 0, .int .i64 0, .int .i64 0, .int .i64 0, .int .i64 0, .int .i64 0, .int .i64 0, .int .i64 0, .int .i64 0, .int .i64 0, .int .i64 0, .int .i64 0, .int .i64 0] 37)).alloc (.cells #[.int .i64 0, .int .i64 0, .int .i64 0, .int .i64 0, .int .i64 0] 40)) = W := ⟨_, rfl⟩
  rw [hW] at M0 ⊢
  clear e1 e2 hW
  generalize wr.heap.size + 1 + 1 = b2 at M0 ⊢
  generalize wr.heap.size + 1 = b1 at M0 ⊢
  generalize wr.heap.size = b0 at M0 ⊢
  have M1 : Hid (Has B w W (Star (Cel b2 40 #[.int .i64 0, .int .i64 0, .int .i64 0, .int .i64 0, .int .i64 0]) (Star (Cel b1 37 #[.int .i64 0, .int .i64 0, .int .i64 0, .int .i64 0, .int .i64 0, .int .i64 0, .int .i64 0, .int .i64 0, .int .i64 0, .int .i64 0, .int .i64 0, .int .i64 0, .int .i64 0, .int .i64 0, .int .i64 0, .int .i64 0, .int .i64 0, .int .i64 0]) (Star (Cel b0 37 D.arr) (Star (Rf c L) Y))))) := M0
  clear M0
  clear h
  have hpc : W.cell? ⟨b0, 0, none⟩ = some (.int .i64 D.pc) := M1.out.cellat b0 0 rfl
  have hz : (D.pc == 0) = false := beq_eq_false_iff_ne.2 h0
  have C1 := Lib.hid (told_own (M1.out.pick (Rf c L)) D HC.out)
  rw [HT] at C1
  have HT' := Lib.hid HT
  clear h0 HT
  go_wp2_with (first | (refine wpList_load_rowW rfl 37 _ rfl b0 rfl D.arr _ (M1.out.getc b0) Try.underlying37 rfl (by kernel_rfl) ?_))
  refine (C1.out).mono ?_
  rintro e w2 ⟨rfl, m2⟩
  clear M1 C1 hpc
  have M2 := Lib.hid (m2.newcel 30 #[.int .i64 0, .int .i64 0, .int .i64 0, .int .i64 0, .int .i64 0])
  have M3 := Lib.hid (M2.out.rowc w2.heap.size (insA ⟨11, a, b, cc, n⟩))
  clear m2
  go_upto_region 4 with (first | (refine wpList_store_row rfl 30 _ _ rfl w2.heap.size (insA ⟨11, a, b, cc, n⟩) rfl rfl 30 #[.int .i64 0, .int .i64 0, .int .i64 0, .int .i64 0, .int .i64 0] (M2.out.getc w2.heap.size) (by kernel_rfl) rfl (by kernel_rfl) ?_))
  obtain ⟨W3, hW⟩ : ∃ W3, (w2.alloc (.cells #[.int .i64 0, .int .i64 0, .int .i64 0, .int .i64 0, .int .i64 0] 30)).setRow w2.heap.size (insA ⟨11, a, b, cc, n⟩) = W3 := ⟨_, rfl⟩
  have M4 := M3
  rw [hW] at M4 ⊢
  clear hW M2 M3
  generalize w2.heap.size = b6 at M4 ⊢
  have M5 := Lib.hid (M4.out.newcel 37 #[.int .i64 0, .int .i64 0, .int .i64 0, .int .i64 0, .int .i64 0, .int .i64 0, .int .i64 0, .int .i64 0, .int .i64 0, .int .i64 0, .int .i64 0, .int .i64 0, .int .i64 0, .int .i64 0, .int .i64 0, .int .i64 0, .int .i64 0, .int .i64 0])
  have M6 := Lib.hid (M5.out.rowc W3.heap.size D.arr)
  go_upto_region 7 with (first | (refine wpList_load_rowW rfl 37 _ rfl b0 rfl D.arr _ (M4.out.getc b0) Try.underlying37 rfl (by kernel_rfl) ?_) | (refine wpList_store_row rfl 37 _ _ rfl W3.heap.size D.arr rfl rfl 37 #[.int .i64 0, .int .i64 0, .int .i64 0, .int .i64 0, .int .i64 0, .int .i64 0, .int .i64 0, .int .i64 0, .int .i64 0, .int .i64 0, .int .i64 0, .int .i64 0, .int .i64 0, .int .i64 0, .int .i64 0, .int .i64 0, .int .i64 0, .int .i64 0] (M5.out.getc W3.heap.size) (by kernel_rfl) rfl (by kernel_rfl) ?_))
  obtain ⟨W4, hW⟩ : ∃ W4, (W3.alloc (.cells #[.int .i64 0, .int .i64 0, .int .i64 0, .int .i64 0, .int .i64 0, .int .i64 0, .int .i64 0, .int .i64 0, .int .i64 0, .int .i64 0, .int .i64 0, .int .i64 0, .int .i64 0, .int .i64 0, .int .i64 0, .int .i64 0, .int .i64 0, .int .i64 0] 37)).setRow W3.heap.size D.arr = W4 := ⟨_, rfl⟩
  have M7 := M6
  rw [hW] at M7 ⊢
  clear hW M4 M5 M6
  generalize W3.heap.size = b8 at M7 ⊢
  have hpc : W4.cell? ⟨b0, 0, none⟩ = some (.int .i64 D.pc) := M7.out.cellat b0 0 rfl
  have ol : W4.cell? ⟨b8, 0, none⟩ = some (.int .i64 D.pc) := M7.out.cellat b8 0 rfl
  have lv : W4.frozen? ⟨b8, 0, none⟩ = false := M7.out.liveat b8 0
  have M8 := Lib.hid (M7.out.cellc b8 0 (.int .i64 (wrap64 (D.pc + 8))) (Ctx.arr { D with pc := wrap64 (D.pc + 8) }) rfl)
  go_upto_region 8 with (fail)
  obtain ⟨W5, hW⟩ : ∃ W5, W4.setCell ⟨b8, 0, none⟩ (.int .i64 (wrap64 (D.pc + 8))) = W5 := ⟨_, rfl⟩
  have M9 := M8
  rw [hW] at M9 ⊢
  clear hW M7 M8 hpc ol lv
  rw [HCQ.out] at M9
  have C2 := Lib.hid (HJ W5 _ inferInstance (M9.out.pick (Rf c L)))
  clear HJ
  go_wp2_with (first | (refine wpList_load_rowW rfl 37 _ rfl b8 rfl C.arr _ (M9.out.getc b8) Try.underlying37 rfl (by kernel_rfl) ?_) | (refine wpList_load_rowW rfl 37 _ rfl b0 rfl D.arr _ (M9.out.getc b0) Try.underlying37 rfl (by kernel_rfl) ?_) | (refine wpList_load_rowW rfl 30 _ rfl b6 rfl (insA ⟨11, a, b, cc, n⟩) _ (M9.out.getc b6) Try.underlying30 rfl (by kernel_rfl) ?_))
  refine (C2.out).mono ?_
  rintro e w3 ⟨rfl, m⟩
  clear M9 C2
  have es : (w3.alloc (.cells #[.int .i64 0, .int .i64 0, .int .i64 0, .int .i64 0, .int .i64 0, .int .i64 0, .int .i64 0, .int .i64 0, .int .i64 0, .int .i64 0, .int .i64 0, .int .i64 0, .int .i64 0, .int .i64 0, .int .i64 0, .int .i64 0, .int .i64 0, .int .i64 0] 37)).heap.size = w3.heap.size + 1 := by simp
  have Na := Lib.hid ((m.newcel 37 #[.int .i64 0, .int .i64 0, .int .i64 0, .int .i64 0, .int .i64 0, .int .i64 0, .int .i64 0, .int .i64 0, .int .i64 0, .int .i64 0, .int .i64 0, .int .i64 0, .int .i64 0, .int .i64 0, .int .i64 0, .int .i64 0, .int .i64 0, .int .i64 0]).newcel 40 #[.int .i64 0, .int .i64 0, .int .i64 0, .int .i64 0, .int .i64 0])
  rw [es] at Na
  have Nb := Lib.hid (Na.out.rowc w3.heap.size C.arr)
  have Nc := Lib.hid (Nb.out.rowc (w3.heap.size + 1) #[.int .i64 0, .int .i64 0, .int .i64 0, .int .i64 0, .int .i64 0])
  go_upto_region 9 with (first | (refine wpList_store_row rfl 37 _ _ rfl w3.heap.size C.arr rfl rfl 37 #[.int .i64 0, .int .i64 0, .int .i64 0, .int .i64 0, .int .i64 0, .int .i64 0, .int .i64 0, .int .i64 0, .int .i64 0, .int .i64 0, .int .i64 0, .int .i64 0, .int .i64 0, .int .i64 0, .int .i64 0, .int .i64 0, .int .i64 0, .int .i64 0] (Na.out.getc w3.heap.size) (by kernel_rfl) rfl (by kernel_rfl) ?_) | (refine wpList_store_row rfl 40 _ _ rfl (w3.heap.size + 1) #[.int .i64 0, .int .i64 0, .int .i64 0, .int .i64 0, .int .i64 0] rfl rfl 40 #[.int .i64 0, .int .i64 0, .int .i64 0, .int .i64 0, .int .i64 0] (Nb.out.getc (w3.heap.size + 1)) (by kernel_rfl) rfl (by kernel_rfl) ?_))
  obtain ⟨W6, hW⟩ : ∃ W6, (((w3.alloc (.cells #[.int .i64 0, .int .i64 0, .int .i64 0, .int .i64 0, .int .i64 0, .int .i64 0, .int .i64 0, .int .i64 0, .int .i64 0, .int .i64 0, .int .i64 0, .int .i64 0, .int .i64 0, .int .i64 0, .int .i64 0, .int .i64 0, .int .i64 0, .int .i64 0] 37)).alloc (.cells #[.int .i64 0, .int .i64 0, .int .i64 0, .int .i64 0, .int .i64 0] 40)).setRow w3.heap.size C.arr).setRow (w3.heap.size + 1) #[.int .i64 0, .int .i64 0, .int .i64 0, .int .i64 0, .int .i64 0] = W6 := ⟨_, rfl⟩
  have N1 := Nc
  rw [hW] at N1 ⊢
  clear hW es Na Nb Nc m
  generalize w3.heap.size + 1 = b10 at N1 ⊢
  generalize w3.heap.size = b9 at N1 ⊢
  have C3 := Lib.hid (HA W6)
  clear HA
  go_wp2_with (first | (refine wpList_load_rowW rfl 30 _ rfl b6 rfl (insA ⟨11, a, b, cc, n⟩) _ (N1.out.getc b6) Try.underlying30 rfl (by kernel_rfl) ?_) | (refine wpList_load_rowW rfl 37 _ rfl b8 rfl C.arr _ (N1.out.getc b8) Try.underlying37 rfl (by kernel_rfl) ?_))
  refine (C3.out).mono ?_
  rintro e w7 ⟨rfl, hb7⟩
  have N2 := Lib.hid (N1.out.stay hb7)
  clear N1 C3 hb7
  have N3 := Lib.hid (N2.out.rowc b10 E6.arr)
  go_upto_region 12 with (first | (refine wpList_store_row rfl 40 _ _ rfl b10 E6.arr rfl rfl 40 #[.int .i64 0, .int .i64 0, .int .i64 0, .int .i64 0, .int .i64 0] (N2.out.getc b10) (by kernel_rfl) rfl (by kernel_rfl) ?_))
  obtain ⟨W8, hW⟩ : ∃ W8, w7.setRow b10 E6.arr = W8 := ⟨_, rfl⟩
  have N4 := N3
  rw [hW] at N4 ⊢
  clear hW N2 N3
  have i0 : W8.cell? ⟨b6, 0, none⟩ = some (.int .i64 (11)) := N4.out.cellat b6 0 rfl
  have i1 : W8.cell? ⟨b6, 1, none⟩ = some (.int .i64 a) := N4.out.cellat b6 1 rfl
  have i2 : W8.cell? ⟨b6, 2, none⟩ = some (.int .i64 b) := N4.out.cellat b6 2 rfl
  have i3 : W8.cell? ⟨b6, 3, none⟩ = some (.int .i64 cc) := N4.out.cellat b6 3 rfl
  have i4 : W8.cell? ⟨b6, 4, none⟩ = some (.int .i64 n) := N4.out.cellat b6 4 rfl
  have hpc : W8.cell? ⟨b8, 0, none⟩ = some (.int .i64 C.pc) := N4.out.cellat b8 0 rfl
  have htp : W8.cell? ⟨b8, 1, none⟩ = some (.int .i64 C.tp) := N4.out.cellat b8 1 rfl
  have ra : W8.cell? ⟨b8, 2 + a, none⟩ = some (.int .i64 (C.r a)) := N4.out.cellat b8 (2 + a) (ctx_reg _ ha)
  have rb : W8.cell? ⟨b8, 2 + b, none⟩ = some (.int .i64 (C.r b)) := N4.out.cellat b8 (2 + b) (ctx_reg _ hb)
  have rc : W8.cell? ⟨b8, 2 + cc, none⟩ = some (.int .i64 (C.r cc)) := N4.out.cellat b8 (2 + cc) (ctx_reg _ hcc)
  have fa : W8.frozen? ⟨b8, 2 + a, none⟩ = false := N4.out.liveat b8 (2 + a)
  have na0 : (0 : Int) ≤ (a : Int) := by omega
  have na1 : (a : Int) < 16 := by omega
  have nb0 : (0 : Int) ≤ (b : Int) := by omega
  have nb1 : (b : Int) < 16 := by omega
  have nc0 : (0 : Int) ≤ (cc : Int) := by omega
  have nc1 : (cc : Int) < 16 := by omega
  clear HCQ HC
  obtain ⟨⟨C6, E7⟩, hQ⟩ : ∃ Q, loadedS C D L a (wrap64 (C.pc + n)) = Q := ⟨_, rfl⟩
  have C4 := Lib.hid (loaded_own (N4.out.pick (Rf c L)) C D ha (wrap64 (C.pc + n)) (wrap64_I64 _))
  rw [hQ] at C4
  have HQ := Lib.hid hQ
  clear hQ ha hb hcc
  go_wp2_with (first | (refine wpList_load_rowW rfl 37 _ rfl b8 rfl C.arr _ (N4.out.getc b8) Try.underlying37 rfl (by kernel_rfl) ?_) | (refine wpList_load_rowW rfl 37 _ rfl b0 rfl D.arr _ (N4.out.getc b0) Try.underlying37 rfl (by kernel_rfl) ?_))
  refine (C4.out).mono ?_
  rintro e w9 ⟨rfl, m9⟩
  have P1 := Lib.hid m9
  clear m9 C4 N4
  have P2 := Lib.hid (P1.out.rowc b1 C6.arr)
  have P3 := Lib.hid (P2.out.rowc b2 E7.arr)
  go_wp2_with (first | (refine wpList_store_row rfl 37 _ _ rfl b1 C6.arr rfl rfl 37 #[.int .i64 0, .int .i64 0, .int .i64 0, .int .i64 0, .int .i64 0, .int .i64 0, .int .i64 0, .int .i64 0, .int .i64 0, .int .i64 0, .int .i64 0, .int .i64 0, .int .i64 0, .int .i64 0, .int .i64 0, .int .i64 0, .int .i64 0, .int .i64 0] (P1.out.getc b1) (by kernel_rfl) rfl (by kernel_rfl) ?_) | (refine wpList_store_row rfl 40 _ _ rfl b2 E7.arr rfl rfl 40 #[.int .i64 0, .int .i64 0, .int .i64 0, .int .i64 0, .int .i64 0] (P2.out.getc b2) (by kernel_rfl) rfl (by kernel_rfl) ?_))
  try simp only [Exit.inBlock, Exit.then]
  refine bodyPost_ret (results_cell2_row (p := 4) (u := 5) (ty := 37) (uy := 40) rfl _ _ b1 b2 37 40 C6.arr E7.arr _ _ (by kernel_rfl) (P3.out.getc b1) Try.underlying37 rfl (by kernel_rfl) (by kernel_rfl) (P3.out.getc b2) Try.underlying40 rfl (by kernel_rfl)) rfl ?_
  exact ⟨by rw [HQ.out]; first | done | rfl, P3.out.back (Rf c L) Y⟩
set_option maxRecDepth 100000 in
set_option maxHeartbeats 4000000 in
theorem rstep_ld [hY : Fr Y] (h : Has B w wr (Star (Rf c L) Y)) (D : Ctx) (hC : CtxOk D) (C : Ctx) (hCD : { D with pc := wrap64 (D.pc + 8) } = C) {a b cc : Nat} (ha : a < 16) (hb : b < 16) (hcc : cc < 16) (n : Int) (h0 : D.pc ≠ 0) (HT : toldS D L = (⟨9, a, b, cc, n⟩, 0)) (HJ : ∀ (w1 : World) (Y2 : Res) (hY2 : Fr Y2), Has B w w1 (Star (Rf c L) Y2) → Calls Try.prog 36 #[.agg (Ctx.arr C), .agg D.arr, .pointer (some ⟨c, 0, none⟩), .agg (insA ⟨9, a, b, cc, n⟩)] w1 (JumpE B w c (C, ev0, false, L) Y2)) (E6 : Evt) (HA : ∀ w1 : World, Calls Try.prog 37 #[.agg (insA ⟨9, a, b, cc, n⟩), .agg (Ctx.arr C)] w1 fun e w' => e = .returned (.tuple #[.agg E6.arr, .bool false]) ∧ Below w1.heap.size w1 w') : Calls Try.prog 18 #[.agg D.arr, .pointer (some ⟨c, 0, none⟩)] wr (StepE B w c ((loadedS C D L a (wrap64 (C.r b + n))).1, (loadedS C D L a (wrap64 (C.r b + n))).2, L) Y) := by
  have HC := Lib.hid hC
  clear hC
  have HCQ := Lib.hid hCD
  clear hCD
  rw [show D.arr = #[.int .i64 D.pc, .int .i64 D.tp, .int .i64 (D.r 0), .int .i64 (D.r 1), .int .i64 (D.r 2), .int .i64 (D.r 3), .int .i64 (D.r 4), .int .i64 (D.r 5), .int .i64 (D.r 6), .int .i64 (D.r 7), .int .i64 (D.r 8), .int .i64 (D.r 9), .int .i64 (D.r 10), .int .i64 (D.r 11), .int .i64 (D.r 12), .int .i64 (D.r 13), .int .i64 (D.r 14), .int .i64 (D.r 15)] from rfl]
  have M0 := Lib.hid (((h.newcel 37 #[.int .i64 D.pc, .int .i64 D.tp, .int .i64 (D.r 0), .int .i64 (D.r 1), .int .i64 (D.r 2), .int .i64 (D.r 3), .int .i64 (D.r 4), .int .i64 (D.r 5), .int .i64 (D.r 6), .int .i64 (D.r 7), .int .i64 (D.r 8), .int .i64 (D.r 9), .int .i64 (D.r 10), .int .i64 (D.r 11), .int .i64 (D.r 12), .int .i64 (D.r 13), .int .i64 (D.r 14), .int .i64 (D.r 15)]).newcel 37 #[.int .i64 0, .int .i64 0, .int .i64 0, .int .i64 0, .int .i64 0, .int .i64 0, .int .i64 0, .int .i64 0, .int .i64 0, .int .i64 0, .int .i64 0, .int .i64 0, .int .i64 0, .int .i64 0, .int .i64 0, .int .i64 0, .int .i64 0, .int .i64 0]).newcel 40 #[.int .i64 0, .int .i64 0, .int .i64 0, .int .i64 0, .int .i64 0])
  go_enter Try.func18, Try.ntmps18
  go_upto_region 1 with (fail)
  have e1 : (wr.alloc (.cells #[.int .i64 D.pc, .int .i64 D.tp, .int .i64 (D.r 0), .int .i64 (D.r 1), .int .i64 (D.r 2), .int .i64 (D.r 3), .int .i64 (D.r 4), .int .i64 (D.r 5), .int .i64 (D.r 6), .int .i64 (D.r 7), .int .i64 (D.r 8), .int .i64 (D.r 9), .int .i64 (D.r 10), .int .i64 (D.r 11), .int .i64 (D.r 12), .int .i64 (D.r 13), .int .i64 (D.r 14), .int .i64 (D.r 15)] 37)).heap.size = wr.heap.size + 1 := by simp
  have e2 : ((wr.alloc (.cells #[.int .i64 D.pc, .int .i64 D.tp, .int .i64 (D.r 0), .int .i64 (D.r 1), .int .i64 (D.r 2), .int .i64 (D.r 3), .int .i64 (D.r 4), .int .i64 (D.r 5), .int .i64 (D.r 6), .int .i64 (D.r 7), .int .i64 (D.r 8), .int .i64 (D.r 9), .int .i64 (D.r 10), .int .i64 (D.r 11), .int .i64 (D.r 12), .int .i64 (D.r 13), .int .i64 (D.r 14), .int .i64 (D.r 15)] 37)).alloc (.cells #[.int .i64 0, .int .i64 0, .int .i64 0, .int .i64 0, .int .i64 0, .int .i64 0, .int .i64 0, .int .i64 0, .int .i64 0, .int .i64 0, .int .i64 0, .int .i64 0, .int .i64 0, .int .i64 0, .int .i64 0, .int .i64 0, .int .i64 0, .int .i64 0] 37)).heap.size = wr.heap.size + 1 + 1 := by simp
  rw [e2, e1] at M0
  obtain ⟨W, hW⟩ : ∃ W, (((wr.alloc (.cells #[.int .i64 D.pc, .int .i64 D.tp, .int .i64 (D.r 0), .int .i64 (D.r 1), .int .i64 (D.r 2), .int .i64 (D.r 3), .int .i64 (D.r 4), .int .i64 (D.r 5), .int .i64 (D.r 6), .int .i64 (D.r 7), .int .i64 (D.r 8), .int .i64 (D.r 9), .int .i64 (D.r 10), .int .i64 (D.r 11), .int .i64 (D.r 12), .int .i64 (D.r 13), .int .i64 (D.r 14), .int .i64 (D.r 15)] 37)).alloc (.cells #[.int .i64 0, .int .i64 0, .int .i64 0, .int .i64 0, .int .i64 0, .int .i64 0, .int .i64 0, .int .i64 0, .int .i64 0, .int .i64 0, .int .i64 0, .int .i64 0, .int .i64 0, .int .i64 0, .int .i64 0, .int .i64 0, .int .i64 0, .int .i64 0] 37)).alloc (.cells #[.int .i64 0, .int .i64 0, .int .i64 0, .int .i64 0, .int .i64 0] 40)) = W := ⟨_, rfl⟩
  rw [hW] at M0 ⊢
  clear e1 e2 hW
  generalize wr.heap.size + 1 + 1 = b2 at M0 ⊢
  generalize wr.heap.size + 1 = b1 at M0 ⊢
  generalize wr.heap.size = b0 at M0 ⊢
  have M1 : Hid (Has B w W (Star (Cel b2 40 #[.int .i64 0, .int .i64 0, .int .i64 0, .int .i64 0, .int .i64 0]) (Star (Cel b1 37 #[.int .i64 0, .int .i64 0, .int .i64 0, .int .i64 0, .int .i64 0, .int .i64 0, .int .i64 0, .int .i64 0, .int .i64 0, .int .i64 0, .int .i64 0, .int .i64 0, .int .i64 0, .int .i64 0, .int .i64 0, .int .i64 0, .int .i64 0, .int .i64 0]) (Star (Cel b0 37 D.arr) (Star (Rf c L) Y))))) := M0
  clear M0
  clear h
  have hpc : W.cell? ⟨b0, 0, none⟩ = some (.int .i64 D.pc) := M1.out.cellat b0 0 rfl
  have hz : (D.pc == 0) = false := beq_eq_false_iff_ne.2 h0
  have C1 := Lib.hid (told_own (M1.out.pick (Rf c L)) D HC.out)
  rw [HT] at C1
  have HT' := Lib.hid HT
  clear h0 HT
  go_wp2_with (first | (refine wpList_load_rowW rfl 37 _ rfl b0 rfl D.arr _ (M1.out.getc b0) Try.underlying37 rfl (by kernel_rfl) ?_))
  refine (C1.out).mono ?_
  rintro e w2 ⟨rfl, m2⟩
  clear M1 C1 hpc
  have M2 := Lib.hid (m2.newcel 30 #[.int .i64 0, .int .i64 0, .int .i64 0, .int .i64 0, .int .i64 0])
  have M3 := Lib.hid (M2.out.rowc w2.heap.size (insA ⟨9, a, b, cc, n⟩))
  clear m2
  go_upto_region 4 with (first | (refine wpList_store_row rfl 30 _ _ rfl w2.heap.size (insA ⟨9, a, b, cc, n⟩) rfl rfl 30 #[.int .i64 0, .int .i64 0, .int .i64 0, .int .i64 0, .int .i64 0] (M2.out.getc w2.heap.size) (by kernel_rfl) rfl (by kernel_rfl) ?_))
  obtain ⟨W3, hW⟩ : ∃ W3, (w2.alloc (.cells #[.int .i64 0, .int .i64 0, .int .i64 0, .int .i64 0, .int .i64 0] 30)).setRow w2.heap.size (insA ⟨9, a, b, cc, n⟩) = W3 := ⟨_, rfl⟩
  have M4 := M3
  rw [hW] at M4 ⊢
  clear hW M2 M3
  generalize w2.heap.size = b6 at M4 ⊢
  have M5 := Lib.hid (M4.out.newcel 37 #[.int .i64 0, .int .i64 0, .int .i64 0, .int .i64 0, .int .i64 0, .int .i64 0, .int .i64 0, .int .i64 0, .int .i64 0, .int .i64 0, .int .i64 0, .int .i64 0, .int .i64 0, .int .i64 0, .int .i64 0, .int .i64 0, .int .i64 0, .int .i64 0])
  have M6 := Lib.hid (M5.out.rowc W3.heap.size D.arr)
  go_upto_region 7 with (first | (refine wpList_load_rowW rfl 37 _ rfl b0 rfl D.arr _ (M4.out.getc b0) Try.underlying37 rfl (by kernel_rfl) ?_) | (refine wpList_store_row rfl 37 _ _ rfl W3.heap.size D.arr rfl rfl 37 #[.int .i64 0, .int .i64 0, .int .i64 0, .int .i64 0, .int .i64 0, .int .i64 0, .int .i64 0, .int .i64 0, .int .i64 0, .int .i64 0, .int .i64 0, .int .i64 0, .int .i64 0, .int .i64 0, .int .i64 0, .int .i64 0, .int .i64 0, .int .i64 0] (M5.out.getc W3.heap.size) (by kernel_rfl) rfl (by kernel_rfl) ?_))
  obtain ⟨W4, hW⟩ : ∃ W4, (W3.alloc (.cells #[.int .i64 0, .int .i64 0, .int .i64 0, .int .i64 0, .int .i64 0, .int .i64 0, .int .i64 0, .int .i64 0, .int .i64 0, .int .i64 0, .int .i64 0, .int .i64 0, .int .i64 0, .int .i64 0, .int .i64 0, .int .i64 0, .int .i64 0, .int .i64 0] 37)).setRow W3.heap.size D.arr = W4 := ⟨_, rfl⟩
  have M7 := M6
  rw [hW] at M7 ⊢
  clear hW M4 M5 M6
  generalize W3.heap.size = b8 at M7 ⊢
  have hpc : W4.cell? ⟨b0, 0, none⟩ = some (.int .i64 D.pc) := M7.out.cellat b0 0 rfl
  have ol : W4.cell? ⟨b8, 0, none⟩ = some (.int .i64 D.pc) := M7.out.cellat b8 0 rfl
  have lv : W4.frozen? ⟨b8, 0, none⟩ = false := M7.out.liveat b8 0
  have M8 := Lib.hid (M7.out.cellc b8 0 (.int .i64 (wrap64 (D.pc + 8))) (Ctx.arr { D with pc := wrap64 (D.pc + 8) }) rfl)
  go_upto_region 8 with (fail)
  obtain ⟨W5, hW⟩ : ∃ W5, W4.setCell ⟨b8, 0, none⟩ (.int .i64 (wrap64 (D.pc + 8))) = W5 := ⟨_, rfl⟩
  have M9 := M8
  rw [hW] at M9 ⊢
  clear hW M7 M8 hpc ol lv
  rw [HCQ.out] at M9
  have C2 := Lib.hid (HJ W5 _ inferInstance (M9.out.pick (Rf c L)))
  clear HJ
  go_wp2_with (first | (refine wpList_load_rowW rfl 37 _ rfl b8 rfl C.arr _ (M9.out.getc b8) Try.underlying37 rfl (by kernel_rfl) ?_) | (refine wpList_load_rowW rfl 37 _ rfl b0 rfl D.arr _ (M9.out.getc b0) Try.underlying37 rfl (by kernel_rfl) ?_) | (refine wpList_load_rowW rfl 30 _ rfl b6 rfl (insA ⟨9, a, b, cc, n⟩) _ (M9.out.getc b6) Try.underlying30 rfl (by kernel_rfl) ?_))
  refine (C2.out).mono ?_
  rintro e w3 ⟨rfl, m⟩
  clear M9 C2
  have es : (w3.alloc (.cells #[.int .i64 0, .int .i64 0, .int .i64 0, .int .i64 0, .int .i64 0, .int .i64 0, .int .i64 0, .int .i64 0, .int .i64 0, .int .i64 0, .int .i64 0, .int .i64 0, .int .i64 0, .int .i64 0, .int .i64 0, .int .i64 0, .int .i64 0, .int .i64 0] 37)).heap.size = w3.heap.size + 1 := by simp
  have Na := Lib.hid ((m.newcel 37 #[.int .i64 0, .int .i64 0, .int .i64 0, .int .i64 0, .int .i64 0, .int .i64 0, .int .i64 0, .int .i64 0, .int .i64 0, .int .i64 0, .int .i64 0, .int .i64 0, .int .i64 0, .int .i64 0, .int .i64 0, .int .i64 0, .int .i64 0, .int .i64 0]).newcel 40 #[.int .i64 0, .int .i64 0, .int .i64 0, .int .i64 0, .int .i64 0])
  rw [es] at Na
  have Nb := Lib.hid (Na.out.rowc w3.heap.size C.arr)
  have Nc := Lib.hid (Nb.out.rowc (w3.heap.size + 1) #[.int .i64 0, .int .i64 0, .int .i64 0, .int .i64 0, .int .i64 0])
  go_upto_region 9 with (first | (refine wpList_store_row rfl 37 _ _ rfl w3.heap.size C.arr rfl rfl 37 #[.int .i64 0, .int .i64 0, .int .i64 0, .int .i64 0, .int .i64 0, .int .i64 0, .int .i64 0, .int .i64 0, .int .i64 0, .int .i64 0, .int .i64 0, .int .i64 0, .int .i64 0, .int .i64 0, .int .i64 0, .int .i64 0, .int .i64 0, .int .i64 0] (Na.out.getc w3.heap.size) (by kernel_rfl) rfl (by kernel_rfl) ?_) | (refine wpList_store_row rfl 40 _ _ rfl (w3.heap.size + 1) #[.int .i64 0, .int .i64 0, .int .i64 0, .int .i64 0, .int .i64 0] rfl rfl 40 #[.int .i64 0, .int .i64 0, .int .i64 0, .int .i64 0, .int .i64 0] (Nb.out.getc (w3.heap.size + 1)) (by kernel_rfl) rfl (by kernel_rfl) ?_))
  obtain ⟨W6, hW⟩ : ∃ W6, (((w3.alloc (.cells #[.int .i64 0, .int .i64 0, .int .i64 0, .int .i64 0, .int .i64 0, .int .i64 0, .int .i64 0, .int .i64 0, .int .i64 0, .int .i64 0, .int .i64 0, .int .i64 0, .int .i64 0, .int .i64 0, .int .i64 0, .int .i64 0, .int .i64 0, .int .i64 0] 37)).alloc (.cells #[.int .i64 0, .int .i64 0, .int .i64 0, .int .i64 0, .int .i64 0] 40)).setRow w3.heap.size C.arr).setRow (w3.heap.size + 1) #[.int .i64 0, .int .i64 0, .int .i64 0, .int .i64 0, .int .i64 0] = W6 := ⟨_, rfl⟩
  have N1 := Nc
  rw [hW] at N1 ⊢
  clear hW es Na Nb Nc m
  generalize w3.heap.size + 1 = b10 at N1 ⊢
  generalize w3.heap.size = b9 at N1 ⊢
  have C3 := Lib.hid (HA W6)
  clear HA
  go_wp2_with (first | (refine wpList_load_rowW rfl 30 _ rfl b6 rfl (insA ⟨9, a, b, cc, n⟩) _ (N1.out.getc b6) Try.underlying30 rfl (by kernel_rfl) ?_) | (refine wpList_load_rowW rfl 37 _ rfl b8 rfl C.arr _ (N1.out.getc b8) Try.underlying37 rfl (by kernel_rfl) ?_))
  refine (C3.out).mono ?_
  rintro e w7 ⟨rfl, hb7⟩
  have N2 := Lib.hid (N1.out.stay hb7)
  clear N1 C3 hb7
  have N3 := Lib.hid (N2.out.rowc b10 E6.arr)
  go_upto_region 12 with (first | (refine wpList_store_row rfl 40 _ _ rfl b10 E6.arr rfl rfl 40 #[.int .i64 0, .int .i64 0, .int .i64 0, .int .i64 0, .int .i64 0] (N2.out.getc b10) (by kernel_rfl) rfl (by kernel_rfl) ?_))
  obtain ⟨W8, hW⟩ : ∃ W8, w7.setRow b10 E6.arr = W8 := ⟨_, rfl⟩
  have N4 := N3
  rw [hW] at N4 ⊢
  clear hW N2 N3
  have i0 : W8.cell? ⟨b6, 0, none⟩ = some (.int .i64 (9)) := N4.out.cellat b6 0 rfl
  have i1 : W8.cell? ⟨b6, 1, none⟩ = some (.int .i64 a) := N4.out.cellat b6 1 rfl
  have i2 : W8.cell? ⟨b6, 2, none⟩ = some (.int .i64 b) := N4.out.cellat b6 2 rfl
  have i3 : W8.cell? ⟨b6, 3, none⟩ = some (.int .i64 cc) := N4.out.cellat b6 3 rfl
  have i4 : W8.cell? ⟨b6, 4, none⟩ = some (.int .i64 n) := N4.out.cellat b6 4 rfl
  have hpc : W8.cell? ⟨b8, 0, none⟩ = some (.int .i64 C.pc) := N4.out.cellat b8 0 rfl
  have htp : W8.cell? ⟨b8, 1, none⟩ = some (.int .i64 C.tp) := N4.out.cellat b8 1 rfl
  have ra : W8.cell? ⟨b8, 2 + a, none⟩ = some (.int .i64 (C.r a)) := N4.out.cellat b8 (2 + a) (ctx_reg _ ha)
  have rb : W8.cell? ⟨b8, 2 + b, none⟩ = some (.int .i64 (C.r b)) := N4.out.cellat b8 (2 + b) (ctx_reg _ hb)
  have rc : W8.cell? ⟨b8, 2 + cc, none⟩ = some (.int .i64 (C.r cc)) := N4.out.cellat b8 (2 + cc) (ctx_reg _ hcc)
  have fa : W8.frozen? ⟨b8, 2 + a, none⟩ = false := N4.out.liveat b8 (2 + a)
  have na0 : (0 : Int) ≤ (a : Int) := by omega
  have na1 : (a : Int) < 16 := by omega
  have nb0 : (0 : Int) ≤ (b : Int) := by omega
  have nb1 : (b : Int) < 16 := by omega
  have nc0 : (0 : Int) ≤ (cc : Int) := by omega
  have nc1 : (cc : Int) < 16 := by omega
  clear HCQ HC
  obtain ⟨⟨C6, E7⟩, hQ⟩ : ∃ Q, loadedS C D L a (wrap64 (C.r b + n)) = Q := ⟨_, rfl⟩
  go_wp2_with fail
  have N5 := Lib.hid (N4.out.stay below_drw)
  have C4 := Lib.hid (loaded_own (N5.out.pick (Rf c L)) C D ha (wrap64 (C.r b + n)) (wrap64_I64 _))
  rw [hQ] at C4
  have HQ := Lib.hid hQ
  have i64w : Hid (∀ n, IntKind.i64.wrap n = wrap64 n) := Lib.hid (fun n => by first | exact IntWalk.i64_left _ | exact i64_left _ | rfl)
  clear hQ i0 i1 i2 i3 i4 hpc htp ra rb rc fa na0 na1 nb0 nb1 nc0 nc1 N4
  refine wp_region_noPanic ?_
  refine wp_region_held_drew (S := fun X => Blk X b8 37 C.arr ∧ Blk X b0 37 D.arr ∧ Blk X b6 30 (insA ⟨9, a, b, cc, n⟩)) (by kernel_rfl) ⟨N5.out.getc b8, N5.out.getc b0, N5.out.getc b6⟩ ?_
  intro hS
  refine wpAnyH_take (i := 0) rfl (by kernel_rfl) (by kernel_rfl) (by kernel_rfl) (fun _ _ _ h => h) (yields_load_row rfl 37 _ rfl b8 (by kernel_rfl) 37 C.arr _ (fun w h => h.1) Try.underlying37 rfl (by kernel_rfl)) hS ?_
  refine wpAnyH_take (i := 1) rfl (by kernel_rfl) (by kernel_rfl) (by kernel_rfl) (fun _ _ _ h => h) (yields_load_row rfl 37 _ rfl b0 (by kernel_rfl) 37 D.arr _ (fun w h => h.2.1) Try.underlying37 rfl (by kernel_rfl)) hS ?_
  refine wpAnyH_take (i := 2) (v := .pointer (some ⟨c, 0, none⟩)) rfl (by kernel_rfl) (by kernel_rfl) (by kernel_rfl) (fun _ _ _ h => h) (yields_pure rfl (fun w => by kernel_rfl)) hS ?_
  refine wpAnyH_take (i := 3) (v := .pointer (some ⟨b6, 1, none⟩)) rfl (by kernel_rfl) (by kernel_rfl) (by kernel_rfl) (fun _ _ _ h => h) (yields_pure rfl (fun w => by kernel_rfl)) hS ?_
  refine wpAnyH_take (i := 4) rfl (by kernel_rfl) (by kernel_rfl) (by kernel_rfl) (fun _ _ _ h => h) (yields_load_cell rfl 3 _ rfl b6 1 (by kernel_rfl) (.int .i64 a) (fun w h => by rw [(h.2.2).cell]; exact rfl) _ Try.underlying3 rfl) hS ?_
  refine wpAnyH_take (i := 5) (v := .pointer (some ⟨b6, 2, none⟩)) rfl (by kernel_rfl) (by kernel_rfl) (by kernel_rfl) (fun _ _ _ h => h) (yields_pure rfl (fun w => by kernel_rfl)) hS ?_
  refine wpAnyH_take (i := 6) rfl (by kernel_rfl) (by kernel_rfl) (by kernel_rfl) (fun _ _ _ h => h) (yields_load_cell rfl 3 _ rfl b6 2 (by kernel_rfl) (.int .i64 b) (fun w h => by rw [(h.2.2).cell]; exact rfl) _ Try.underlying3 rfl) hS ?_
  refine wpAnyH_take (i := 7) (v := .pointer (some ⟨b8, 2, none⟩)) rfl (by kernel_rfl) (by kernel_rfl) (by kernel_rfl) (fun _ _ _ h => h) (yields_pure rfl (fun w => by kernel_rfl)) hS ?_
  refine wpAnyH_take (i := 8) rfl (by kernel_rfl) (by kernel_rfl) (by kernel_rfl) (fun _ _ _ h => h) (yields_index rfl _ _ rfl b8 2 b (by kernel_rfl) (by kernel_rfl) Try.underlying35 (by kernel_rfl) hb) hS ?_
  refine wpAnyH_take (i := 9) rfl (by kernel_rfl) (by kernel_rfl) (by kernel_rfl) (fun _ _ _ h => h) (yields_load_cell rfl 3 _ rfl b8 (2 + b) (by kernel_rfl) (.int .i64 (C.r b)) (fun w h => by rw [(h.1).cell]; exact ctx_reg _ hb) _ Try.underlying3 rfl) hS ?_
  refine wpAnyH_take (i := 10) (v := .pointer (some ⟨b6, 4, none⟩)) rfl (by kernel_rfl) (by kernel_rfl) (by kernel_rfl) (fun _ _ _ h => h) (yields_pure rfl (fun w => by kernel_rfl)) hS ?_
  refine wpAnyH_take (i := 11) rfl (by kernel_rfl) (by kernel_rfl) (by kernel_rfl) (fun _ _ _ h => h) (yields_load_cell rfl 3 _ rfl b6 4 (by kernel_rfl) (.int .i64 n) (fun w h => by rw [(h.2.2).cell]; exact rfl) _ Try.underlying3 rfl) hS ?_
  refine wpAnyH_take (i := 12) (v := .int .i64 (wrap64 (C.r b + n))) rfl (by kernel_rfl) (by kernel_rfl) (by kernel_rfl) (fun _ _ _ h => h) (yields_pure rfl (fun w => by rw [← i64w.out (C.r b + n)]; kernel_rfl)) hS ?_
  refine wpAnyH_all (rs := [13]) (by kernel_rfl) (by simp) ?_
  intro i hi
  obtain rfl : i = 13 := by simpa using hi
  refine wpOp_call rfl rfl _ _ _ rfl _ (by kernel_rfl) ((C4.out).mono ?_)
  rintro e w9 ⟨rfl, m9⟩
  have P1 := Lib.hid m9
  clear m9 C4 N5 hS
  have hS : (fun X => Blk X b8 37 C.arr ∧ Blk X b0 37 D.arr ∧ Blk X b6 30 (insA ⟨9, a, b, cc, n⟩)) w9 := ⟨P1.out.getc b8, P1.out.getc b0, P1.out.getc b6⟩
  refine ⟨_, rfl, hS, ?_⟩
  refine wpAnyH_take (i := 14) (v := .agg C6.arr) rfl (by kernel_rfl) (by kernel_rfl) (by kernel_rfl) (fun _ _ _ h => h) (yields_pure rfl (fun w => by kernel_rfl)) hS ?_
  refine wpAnyH_take (i := 15) (v := .agg E7.arr) rfl (by kernel_rfl) (by kernel_rfl) (by kernel_rfl) (fun _ _ _ h => h) (yields_pure rfl (fun w => by kernel_rfl)) hS ?_
  have P2 := Lib.hid (P1.out.rowc b1 C6.arr)
  refine wpAnyH_all (rs := [16]) (by kernel_rfl) (by simp) ?_
  intro i hi
  obtain rfl : i = 16 := by simpa using hi
  refine wpOp_store_row rfl rfl 37 _ _ rfl b1 C6.arr (by kernel_rfl) (by kernel_rfl) 37 #[.int .i64 0, .int .i64 0, .int .i64 0, .int .i64 0, .int .i64 0, .int .i64 0, .int .i64 0, .int .i64 0, .int .i64 0, .int .i64 0, .int .i64 0, .int .i64 0, .int .i64 0, .int .i64 0, .int .i64 0, .int .i64 0, .int .i64 0, .int .i64 0] (P1.out.getc b1) (by kernel_rfl) rfl (by kernel_rfl) ?_
  clear hS
  have hS : (fun X => Blk X b8 37 C.arr ∧ Blk X b0 37 D.arr ∧ Blk X b6 30 (insA ⟨9, a, b, cc, n⟩)) _ := ⟨P2.out.getc b8, P2.out.getc b0, P2.out.getc b6⟩
  refine ⟨hS, ?_⟩
  have P3 := Lib.hid (P2.out.rowc b2 E7.arr)
  refine wpAnyH_all (rs := [17]) (by kernel_rfl) (by simp) ?_
  intro i hi
  obtain rfl : i = 17 := by simpa using hi
  refine wpOp_store_row rfl rfl 40 _ _ rfl b2 E7.arr (by kernel_rfl) (by kernel_rfl) 40 #[.int .i64 0, .int .i64 0, .int .i64 0, .int .i64 0, .int .i64 0] (P2.out.getc b2) (by kernel_rfl) rfl (by kernel_rfl) ?_
  refine ⟨⟨P3.out.getc b8, P3.out.getc b0, P3.out.getc b6⟩, ?_⟩
  refine wpAnyH_done (by kernel_rfl) ?_ _
  refine NoPanic.normal ?_
  go_wp2
  try simp only [Exit.inBlock, Exit.then]
  refine bodyPost_ret (results_cell2_row (p := 4) (u := 5) (ty := 37) (uy := 40) rfl _ _ b1 b2 37 40 C6.arr E7.arr _ _ (by kernel_rfl) (P3.out.getc b1) Try.underlying37 rfl (by kernel_rfl) (by kernel_rfl) (P3.out.getc b2) Try.underlying40 rfl (by kernel_rfl)) rfl ?_
  exact ⟨by rw [HQ.out]; first | done | rfl, P3.out.back (Rf c L) Y⟩
set_option maxRecDepth 100000 in
set_option maxHeartbeats 4000000 in
theorem rstep_st [hY : Fr Y] (h : Has B w wr (Star (Rf c L) Y)) (D : Ctx) (hC : CtxOk D) (C : Ctx) (hCD : { D with pc := wrap64 (D.pc + 8) } = C) {a b cc : Nat} (ha : a < 16) (hb : b < 16) (hcc : cc < 16) (n : Int) (h0 : D.pc ≠ 0) (HT : toldS D L = (⟨10, a, b, cc, n⟩, 0)) (HJ : ∀ (w1 : World) (Y2 : Res) (hY2 : Fr Y2), Has B w w1 (Star (Rf c L) Y2) → Calls Try.prog 36 #[.agg (Ctx.arr C), .agg D.arr, .pointer (some ⟨c, 0, none⟩), .agg (insA ⟨10, a, b, cc, n⟩)] w1 (JumpE B w c (C, ev0, false, L) Y2)) (E6 : Evt) (HA : ∀ w1 : World, Calls Try.prog 37 #[.agg (insA ⟨10, a, b, cc, n⟩), .agg (Ctx.arr C)] w1 fun e w' => e = .returned (.tuple #[.agg E6.arr, .bool false]) ∧ Below w1.heap.size w1 w') : Calls Try.prog 18 #[.agg D.arr, .pointer (some ⟨c, 0, none⟩)] wr (StepE B w c (stoC C D (setS L (wrap64 (C.r b + n)) (bytesS (C.r a)) 2).2, stE (setS L (wrap64 (C.r b + n)) (bytesS (C.r a)) 2).2, (setS L (wrap64 (C.r b + n)) (bytesS (C.r a)) 2).1) Y) := by
  have HC := Lib.hid hC
  clear hC
  have HCQ := Lib.hid hCD
  clear hCD
  rw [show D.arr = #[.int .i64 D.pc, .int .i64 D.tp, .int .i64 (D.r 0), .int .i64 (D.r 1), .int .i64 (D.r 2), .int .i64 (D.r 3), .int .i64 (D.r 4), .int .i64 (D.r 5), .int .i64 (D.r 6), .int .i64 (D.r 7), .int .i64 (D.r 8), .int .i64 (D.r 9), .int .i64 (D.r 10), .int .i64 (D.r 11), .int .i64 (D.r 12), .int .i64 (D.r 13), .int .i64 (D.r 14), .int .i64 (D.r 15)] from rfl]
  have M0 := Lib.hid (((h.newcel 37 #[.int .i64 D.pc, .int .i64 D.tp, .int .i64 (D.r 0), .int .i64 (D.r 1), .int .i64 (D.r 2), .int .i64 (D.r 3), .int .i64 (D.r 4), .int .i64 (D.r 5), .int .i64 (D.r 6), .int .i64 (D.r 7), .int .i64 (D.r 8), .int .i64 (D.r 9), .int .i64 (D.r 10), .int .i64 (D.r 11), .int .i64 (D.r 12), .int .i64 (D.r 13), .int .i64 (D.r 14), .int .i64 (D.r 15)]).newcel 37 #[.int .i64 0, .int .i64 0, .int .i64 0, .int .i64 0, .int .i64 0, .int .i64 0, .int .i64 0, .int .i64 0, .int .i64 0, .int .i64 0, .int .i64 0, .int .i64 0, .int .i64 0, .int .i64 0, .int .i64 0, .int .i64 0, .int .i64 0, .int .i64 0]).newcel 40 #[.int .i64 0, .int .i64 0, .int .i64 0, .int .i64 0, .int .i64 0])
  go_enter Try.func18, Try.ntmps18
  go_upto_region 1 with (fail)
  have e1 : (wr.alloc (.cells #[.int .i64 D.pc, .int .i64 D.tp, .int .i64 (D.r 0), .int .i64 (D.r 1), .int .i64 (D.r 2), .int .i64 (D.r 3), .int .i64 (D.r 4), .int .i64 (D.r 5), .int .i64 (D.r 6), .int .i64 (D.r 7), .int .i64 (D.r 8), .int .i64 (D.r 9), .int .i64 (D.r 10), .int .i64 (D.r 11), .int .i64 (D.r 12), .int .i64 (D.r 13), .int .i64 (D.r 14), .int .i64 (D.r 15)] 37)).heap.size = wr.heap.size + 1 := by simp
  have e2 : ((wr.alloc (.cells #[.int .i64 D.pc, .int .i64 D.tp, .int .i64 (D.r 0), .int .i64 (D.r 1), .int .i64 (D.r 2), .int .i64 (D.r 3), .int .i64 (D.r 4), .int .i64 (D.r 5), .int .i64 (D.r 6), .int .i64 (D.r 7), .int .i64 (D.r 8), .int .i64 (D.r 9), .int .i64 (D.r 10), .int .i64 (D.r 11), .int .i64 (D.r 12), .int .i64 (D.r 13), .int .i64 (D.r 14), .int .i64 (D.r 15)] 37)).alloc (.cells #[.int .i64 0, .int .i64 0, .int .i64 0, .int .i64 0, .int .i64 0, .int .i64 0, .int .i64 0, .int .i64 0, .int .i64 0, .int .i64 0, .int .i64 0, .int .i64 0, .int .i64 0, .int .i64 0, .int .i64 0, .int .i64 0, .int .i64 0, .int .i64 0] 37)).heap.size = wr.heap.size + 1 + 1 := by simp
  rw [e2, e1] at M0
  obtain ⟨W, hW⟩ : ∃ W, (((wr.alloc (.cells #[.int .i64 D.pc, .int .i64 D.tp, .int .i64 (D.r 0), .int .i64 (D.r 1), .int .i64 (D.r 2), .int .i64 (D.r 3), .int .i64 (D.r 4), .int .i64 (D.r 5), .int .i64 (D.r 6), .int .i64 (D.r 7), .int .i64 (D.r 8), .int .i64 (D.r 9), .int .i64 (D.r 10), .int .i64 (D.r 11), .int .i64 (D.r 12), .int .i64 (D.r 13), .int .i64 (D.r 14), .int .i64 (D.r 15)] 37)).alloc (.cells #[.int .i64 0, .int .i64 0, .int .i64 0, .int .i64 0, .int .i64 0, .int .i64 0, .int .i64 0, .int .i64 0, .int .i64 0, .int .i64 0, .int .i64 0, .int .i64 0, .int .i64 0, .int .i64 0, .int .i64 0, .int .i64 0, .int .i64 0, .int .i64 0] 37)).alloc (.cells #[.int .i64 0, .int .i64 0, .int .i64 0, .int .i64 0, .int .i64 0] 40)) = W := ⟨_, rfl⟩
  rw [hW] at M0 ⊢
  clear e1 e2 hW
  generalize wr.heap.size + 1 + 1 = b2 at M0 ⊢
  generalize wr.heap.size + 1 = b1 at M0 ⊢
  generalize wr.heap.size = b0 at M0 ⊢
  have M1 : Hid (Has B w W (Star (Cel b2 40 #[.int .i64 0, .int .i64 0, .int .i64 0, .int .i64 0, .int .i64 0]) (Star (Cel b1 37 #[.int .i64 0, .int .i64 0, .int .i64 0, .int .i64 0, .int .i64 0, .int .i64 0, .int .i64 0, .int .i64 0, .int .i64 0, .int .i64 0, .int .i64 0, .int .i64 0, .int .i64 0, .int .i64 0, .int .i64 0, .int .i64 0, .int .i64 0, .int .i64 0]) (Star (Cel b0 37 D.arr) (Star (Rf c L) Y))))) := M0
  clear M0
  clear h
  have hpc : W.cell? ⟨b0, 0, none⟩ = some (.int .i64 D.pc) := M1.out.cellat b0 0 rfl
  have hz : (D.pc == 0) = false := beq_eq_false_iff_ne.2 h0
  have C1 := Lib.hid (told_own (M1.out.pick (Rf c L)) D HC.out)
  rw [HT] at C1
  have HT' := Lib.hid HT
  clear h0 HT
  go_wp2_with (first | (refine wpList_load_rowW rfl 37 _ rfl b0 rfl D.arr _ (M1.out.getc b0) Try.underlying37 rfl (by kernel_rfl) ?_))
  refine (C1.out).mono ?_
  rintro e w2 ⟨rfl, m2⟩
  clear M1 C1 hpc
  have M2 := Lib.hid (m2.newcel 30 #[.int .i64 0, .int .i64 0, .int .i64 0, .int .i64 0, .int .i64 0])
  have M3 := Lib.hid (M2.out.rowc w2.heap.size (insA ⟨10, a, b, cc, n⟩))
  clear m2
  go_upto_region 4 with (first | (refine wpList_store_row rfl 30 _ _ rfl w2.heap.size (insA ⟨10, a, b, cc, n⟩) rfl rfl 30 #[.int .i64 0, .int .i64 0, .int .i64 0, .int .i64 0, .int .i64 0] (M2.out.getc w2.heap.size) (by kernel_rfl) rfl (by kernel_rfl) ?_))
  obtain ⟨W3, hW⟩ : ∃ W3, (w2.alloc (.cells #[.int .i64 0, .int .i64 0, .int .i64 0, .int .i64 0, .int .i64 0] 30)).setRow w2.heap.size (insA ⟨10, a, b, cc, n⟩) = W3 := ⟨_, rfl⟩
  have M4 := M3
  rw [hW] at M4 ⊢
  clear hW M2 M3
  generalize w2.heap.size = b6 at M4 ⊢
  have M5 := Lib.hid (M4.out.newcel 37 #[.int .i64 0, .int .i64 0, .int .i64 0, .int .i64 0, .int .i64 0, .int .i64 0, .int .i64 0, .int .i64 0, .int .i64 0, .int .i64 0, .int .i64 0, .int .i64 0, .int .i64 0, .int .i64 0, .int .i64 0, .int .i64 0, .int .i64 0, .int .i64 0])
  have M6 := Lib.hid (M5.out.rowc W3.heap.size D.arr)
  go_upto_region 7 with (first | (refine wpList_load_rowW rfl 37 _ rfl b0 rfl D.arr _ (M4.out.getc b0) Try.underlying37 rfl (by kernel_rfl) ?_) | (refine wpList_store_row rfl 37 _ _ rfl W3.heap.size D.arr rfl rfl 37 #[.int .i64 0, .int .i64 0, .int .i64 0, .int .i64 0, .int .i64 0, .int .i64 0, .int .i64 0, .int .i64 0, .int .i64 0, .int .i64 0, .int .i64 0, .int .i64 0, .int .i64 0, .int .i64 0, .int .i64 0, .int .i64 0, .int .i64 0, .int .i64 0] (M5.out.getc W3.heap.size) (by kernel_rfl) rfl (by kernel_rfl) ?_))
  obtain ⟨W4, hW⟩ : ∃ W4, (W3.alloc (.cells #[.int .i64 0, .int .i64 0, .int .i64 0, .int .i64 0, .int .i64 0, .int .i64 0, .int .i64 0, .int .i64 0, .int .i64 0, .int .i64 0, .int .i64 0, .int .i64 0, .int .i64 0, .int .i64 0, .int .i64 0, .int .i64 0, .int .i64 0, .int .i64 0] 37)).setRow W3.heap.size D.arr = W4 := ⟨_, rfl⟩
  have M7 := M6
  rw [hW] at M7 ⊢
  clear hW M4 M5 M6
  generalize W3.heap.size = b8 at M7 ⊢
  have hpc : W4.cell? ⟨b0, 0, none⟩ = some (.int .i64 D.pc) := M7.out.cellat b0 0 rfl
  have ol : W4.cell? ⟨b8, 0, none⟩ = some (.int .i64 D.pc) := M7.out.cellat b8 0 rfl
  have lv : W4.frozen? ⟨b8, 0, none⟩ = false := M7.out.liveat b8 0
  have M8 := Lib.hid (M7.out.cellc b8 0 (.int .i64 (wrap64 (D.pc + 8))) (Ctx.arr { D with pc := wrap64 (D.pc + 8) }) rfl)
  go_upto_region 8 with (fail)
  obtain ⟨W5, hW⟩ : ∃ W5, W4.setCell ⟨b8, 0, none⟩ (.int .i64 (wrap64 (D.pc + 8))) = W5 := ⟨_, rfl⟩
  have M9 := M8
  rw [hW] at M9 ⊢
  clear hW M7 M8 hpc ol lv
  rw [HCQ.out] at M9
  have C2 := Lib.hid (HJ W5 _ inferInstance (M9.out.pick (Rf c L)))
  clear HJ
  go_wp2_with (first | (refine wpList_load_rowW rfl 37 _ rfl b8 rfl C.arr _ (M9.out.getc b8) Try.underlying37 rfl (by kernel_rfl) ?_) | (refine wpList_load_rowW rfl 37 _ rfl b0 rfl D.arr _ (M9.out.getc b0) Try.underlying37 rfl (by kernel_rfl) ?_) | (refine wpList_load_rowW rfl 30 _ rfl b6 rfl (insA ⟨10, a, b, cc, n⟩) _ (M9.out.getc b6) Try.underlying30 rfl (by kernel_rfl) ?_))
  refine (C2.out).mono ?_
  rintro e w3 ⟨rfl, m⟩
  clear M9 C2
  have es : (w3.alloc (.cells #[.int .i64 0, .int .i64 0, .int .i64 0, .int .i64 0, .int .i64 0, .int .i64 0, .int .i64 0, .int .i64 0, .int .i64 0, .int .i64 0, .int .i64 0, .int .i64 0, .int .i64 0, .int .i64 0, .int .i64 0, .int .i64 0, .int .i64 0, .int .i64 0] 37)).heap.size = w3.heap.size + 1 := by simp
  have Na := Lib.hid ((m.newcel 37 #[.int .i64 0, .int .i64 0, .int .i64 0, .int .i64 0, .int .i64 0, .int .i64 0, .int .i64 0, .int .i64 0, .int .i64 0, .int .i64 0, .int .i64 0, .int .i64 0, .int .i64 0, .int .i64 0, .int .i64 0, .int .i64 0, .int .i64 0, .int .i64 0]).newcel 40 #[.int .i64 0, .int .i64 0, .int .i64 0, .int .i64 0, .int .i64 0])
  rw [es] at Na
  have Nb := Lib.hid (Na.out.rowc w3.heap.size C.arr)
  have Nc := Lib.hid (Nb.out.rowc (w3.heap.size + 1) #[.int .i64 0, .int .i64 0, .int .i64 0, .int .i64 0, .int .i64 0])
  go_upto_region 9 with (first | (refine wpList_store_row rfl 37 _ _ rfl w3.heap.size C.arr rfl rfl 37 #[.int .i64 0, .int .i64 0, .int .i64 0, .int .i64 0, .int .i64 0, .int .i64 0, .int .i64 0, .int .i64 0, .int .i64 0, .int .i64 0, .int .i64 0, .int .i64 0, .int .i64 0, .int .i64 0, .int .i64 0, .int .i64 0, .int .i64 0, .int .i64 0] (Na.out.getc w3.heap.size) (by kernel_rfl) rfl (by kernel_rfl) ?_) | (refine wpList_store_row rfl 40 _ _ rfl (w3.heap.size + 1) #[.int .i64 0, .int .i64 0, .int .i64 0, .int .i64 0, .int .i64 0] rfl rfl 40 #[.int .i64 0, .int .i64 0, .int .i64 0, .int .i64 0, .int .i64 0] (Nb.out.getc (w3.heap.size + 1)) (by kernel_rfl) rfl (by kernel_rfl) ?_))
  obtain ⟨W6, hW⟩ : ∃ W6, (((w3.alloc (.cells #[.int .i64 0, .int .i64 0, .int .i64 0, .int .i64 0, .int .i64 0, .int .i64 0, .int .i64 0, .int .i64 0, .int .i64 0, .int .i64 0, .int .i64 0, .int .i64 0, .int .i64 0, .int .i64 0, .int .i64 0, .int .i64 0, .int .i64 0, .int .i64 0] 37)).alloc (.cells #[.int .i64 0, .int .i64 0, .int .i64 0, .int .i64 0, .int .i64 0] 40)).setRow w3.heap.size C.arr).setRow (w3.heap.size + 1) #[.int .i64 0, .int .i64 0, .int .i64 0, .int .i64 0, .int .i64 0] = W6 := ⟨_, rfl⟩
  have N1 := Nc
  rw [hW] at N1 ⊢
  clear hW es Na Nb Nc m
  generalize w3.heap.size + 1 = b10 at N1 ⊢
  generalize w3.heap.size = b9 at N1 ⊢
  have C3 := Lib.hid (HA W6)
  clear HA
  go_wp2_with (first | (refine wpList_load_rowW rfl 30 _ rfl b6 rfl (insA ⟨10, a, b, cc, n⟩) _ (N1.out.getc b6) Try.underlying30 rfl (by kernel_rfl) ?_) | (refine wpList_load_rowW rfl 37 _ rfl b8 rfl C.arr _ (N1.out.getc b8) Try.underlying37 rfl (by kernel_rfl) ?_))
  refine (C3.out).mono ?_
  rintro e w7 ⟨rfl, hb7⟩
  have N2 := Lib.hid (N1.out.stay hb7)
  clear N1 C3 hb7
  have N3 := Lib.hid (N2.out.rowc b10 E6.arr)
  go_upto_region 12 with (first | (refine wpList_store_row rfl 40 _ _ rfl b10 E6.arr rfl rfl 40 #[.int .i64 0, .int .i64 0, .int .i64 0, .int .i64 0, .int .i64 0] (N2.out.getc b10) (by kernel_rfl) rfl (by kernel_rfl) ?_))
  obtain ⟨W8, hW⟩ : ∃ W8, w7.setRow b10 E6.arr = W8 := ⟨_, rfl⟩
  have N4 := N3
  rw [hW] at N4 ⊢
  clear hW N2 N3
  have i0 : W8.cell? ⟨b6, 0, none⟩ = some (.int .i64 (10)) := N4.out.cellat b6 0 rfl
  have i1 : W8.cell? ⟨b6, 1, none⟩ = some (.int .i64 a) := N4.out.cellat b6 1 rfl
  have i2 : W8.cell? ⟨b6, 2, none⟩ = some (.int .i64 b) := N4.out.cellat b6 2 rfl
  have i3 : W8.cell? ⟨b6, 3, none⟩ = some (.int .i64 cc) := N4.out.cellat b6 3 rfl
  have i4 : W8.cell? ⟨b6, 4, none⟩ = some (.int .i64 n) := N4.out.cellat b6 4 rfl
  have hpc : W8.cell? ⟨b8, 0, none⟩ = some (.int .i64 C.pc) := N4.out.cellat b8 0 rfl
  have htp : W8.cell? ⟨b8, 1, none⟩ = some (.int .i64 C.tp) := N4.out.cellat b8 1 rfl
  have ra : W8.cell? ⟨b8, 2 + a, none⟩ = some (.int .i64 (C.r a)) := N4.out.cellat b8 (2 + a) (ctx_reg _ ha)
  have rb : W8.cell? ⟨b8, 2 + b, none⟩ = some (.int .i64 (C.r b)) := N4.out.cellat b8 (2 + b) (ctx_reg _ hb)
  have rc : W8.cell? ⟨b8, 2 + cc, none⟩ = some (.int .i64 (C.r cc)) := N4.out.cellat b8 (2 + cc) (ctx_reg _ hcc)
  have fa : W8.frozen? ⟨b8, 2 + a, none⟩ = false := N4.out.liveat b8 (2 + a)
  have na0 : (0 : Int) ≤ (a : Int) := by omega
  have na1 : (a : Int) < 16 := by omega
  have nb0 : (0 : Int) ≤ (b : Int) := by omega
  have nb1 : (b : Int) < 16 := by omega
  have nc0 : (0 : Int) ≤ (cc : Int) := by omega
  have nc1 : (cc : Int) < 16 := by omega
  clear HCQ HC
  have CS := Lib.hid (fun (w2 : World) (Y2 : Res) (hY2 : Fr Y2) (m : Has B w w2 (Star (Rf c L) Y2)) => own_rsetWord m (wrap64 (C.r b + n)) (wrap64_I64 _) (C.r a) 2 (by decide))
  obtain ⟨⟨L2, Q2⟩, hQ⟩ : ∃ Q, setS L (wrap64 (C.r b + n)) (bytesS (C.r a)) 2 = Q := ⟨_, rfl⟩
  rw [hQ] at CS
  have HQ := Lib.hid hQ
  clear hQ
  simp only at CS
  have N5 := Lib.hid (N4.out.stay below_drw)
  have C4 := Lib.hid (CS.out _ _ inferInstance (N5.out.pick (Rf c L)))
  clear CS ha hb hcc
  by_cases hq : Q2 = 0
  · subst hq
    go_wp2_with fail
    go_still_tail 14, (by kernel_rfl)
    go_wp2_with fail
    refine (C4.out).mono ?_
    rintro e w9 ⟨rfl, m9⟩
    have P1 := Lib.hid m9
    clear m9 C4 N4 N5
    have P2 := Lib.hid (P1.out.rowc b1 C.arr)
    have P3 := Lib.hid (P2.out.rowc b2 #[.int .i64 0, .int .i64 0, .int .i64 0, .int .i64 0, .int .i64 0])
    go_wp2_with (first | (refine wpList_load_rowW rfl 37 _ rfl b8 rfl C.arr _ (P1.out.getc b8) Try.underlying37 rfl (by kernel_rfl) ?_) | (refine wpList_store_row rfl 37 _ _ rfl b1 C.arr rfl rfl 37 #[.int .i64 0, .int .i64 0, .int .i64 0, .int .i64 0, .int .i64 0, .int .i64 0, .int .i64 0, .int .i64 0, .int .i64 0, .int .i64 0, .int .i64 0, .int .i64 0, .int .i64 0, .int .i64 0, .int .i64 0, .int .i64 0, .int .i64 0, .int .i64 0] (P1.out.getc b1) (by kernel_rfl) rfl (by kernel_rfl) ?_) | (refine wpList_store_row rfl 40 _ _ rfl b2 #[.int .i64 0, .int .i64 0, .int .i64 0, .int .i64 0, .int .i64 0] rfl rfl 40 #[.int .i64 0, .int .i64 0, .int .i64 0, .int .i64 0, .int .i64 0] (P2.out.getc b2) (by kernel_rfl) rfl (by kernel_rfl) ?_))
    try simp only [Exit.inBlock, Exit.then]
    refine bodyPost_ret (results_cell2_row (p := 4) (u := 5) (ty := 37) (uy := 40) rfl _ _ b1 b2 37 40 C.arr #[.int .i64 0, .int .i64 0, .int .i64 0, .int .i64 0, .int .i64 0] _ _ (by kernel_rfl) (P3.out.getc b1) Try.underlying37 rfl (by kernel_rfl) (by kernel_rfl) (P3.out.getc b2) Try.underlying40 rfl (by kernel_rfl)) rfl ?_
    exact ⟨by rw [HQ.out]; rfl, by rw [HQ.out]; exact P3.out.back (Rf c L2) Y⟩
  · have hqb : (Q2 != 0) = true := bne_iff_ne.2 hq
    have HSE : Hid (stE Q2 = trapV Q2) := Lib.hid (by unfold stE; rw [if_neg hq])
    have HQN := Lib.hid hq
    go_wp2_with fail
    go_still_tail 14, (by kernel_rfl)
    go_wp2_with fail
    refine (C4.out).mono ?_
    rintro e w9 ⟨rfl, m9⟩
    have P1 := Lib.hid m9
    clear m9 C4 N4 N5 hq
    have CT := Lib.hid (trapped_any D Q2 w9)
    go_wp2_with (first | (refine wpList_load_rowW rfl 37 _ rfl b0 rfl D.arr _ (P1.out.getc b0) Try.underlying37 rfl (by kernel_rfl) ?_))
    refine (CT.out).mono ?_
    rintro e w8 ⟨rfl, hb8⟩
    have M8 := Lib.hid (P1.out.stay hb8)
    clear CT P1 hb8
    have M9 := Lib.hid (M8.out.rowc b1 D.arr)
    have MX := Lib.hid (M9.out.rowc b2 (trapV Q2).arr)
    go_wp2_with (first | (refine wpList_store_row rfl 37 _ _ rfl b1 D.arr rfl rfl 37 #[.int .i64 0, .int .i64 0, .int .i64 0, .int .i64 0, .int .i64 0, .int .i64 0, .int .i64 0, .int .i64 0, .int .i64 0, .int .i64 0, .int .i64 0, .int .i64 0, .int .i64 0, .int .i64 0, .int .i64 0, .int .i64 0, .int .i64 0, .int .i64 0] (M8.out.getc b1) (by kernel_rfl) rfl (by kernel_rfl) ?_) | (refine wpList_store_row rfl 40 _ _ rfl b2 (trapV Q2).arr rfl rfl 40 #[.int .i64 0, .int .i64 0, .int .i64 0, .int .i64 0, .int .i64 0] (M9.out.getc b2) (by kernel_rfl) rfl (by kernel_rfl) ?_))
    try simp only [Exit.inBlock, Exit.then]
    refine bodyPost_ret (results_cell2_row (p := 4) (u := 5) (ty := 37) (uy := 40) rfl _ _ b1 b2 37 40 D.arr (trapV Q2).arr _ _ (by kernel_rfl) (MX.out.getc b1) Try.underlying37 rfl (by kernel_rfl) (by kernel_rfl) (MX.out.getc b2) Try.underlying40 rfl (by kernel_rfl)) rfl ?_
    exact ⟨by rw [HQ.out]; show _ = Ending.returned (.tuple #[.agg (stoC C D Q2).arr, .agg (stE Q2).arr]); rw [show stoC C D Q2 = D from if_neg HQN.out, HSE.out], by rw [HQ.out]; exact MX.out.back (Rf c L2) Y⟩
set_option maxRecDepth 100000 in
set_option maxHeartbeats 4000000 in
theorem rstep_reckon [hY : Fr Y] (h : Has B w wr (Star (Rf c L) Y)) (D : Ctx) (hC : CtxOk D) (C : Ctx) (hCD : { D with pc := wrap64 (D.pc + 8) } = C) {op : Int} (h3 : op = 3 ∨ op = 4 ∨ op = 5 ∨ op = 6 ∨ op = 7 ∨ op = 8) {a b cc : Nat} (ha : a < 16) (hb : b < 16) (hcc : cc < 16) (n : Int) (h0 : D.pc ≠ 0) (HT : toldS D L = (⟨op, a, b, cc, n⟩, 0)) (HJ : ∀ (w1 : World) (Y2 : Res) (hY2 : Fr Y2), Has B w w1 (Star (Rf c L) Y2) → Calls Try.prog 36 #[.agg (Ctx.arr C), .agg D.arr, .pointer (some ⟨c, 0, none⟩), .agg (insA ⟨op, a, b, cc, n⟩)] w1 (JumpE B w c (C, ev0, false, L) Y2)) (E6 : Evt) (HA : ∀ w1 : World, Calls Try.prog 37 #[.agg (insA ⟨op, a, b, cc, n⟩), .agg (Ctx.arr C)] w1 fun e w' => e = .returned (.tuple #[.agg E6.arr, .bool false]) ∧ Below w1.heap.size w1 w') : Calls Try.prog 18 #[.agg D.arr, .pointer (some ⟨c, 0, none⟩)] wr (StepE B w c (rknS C D L a (rkS op (C.r b) (C.r cc))) Y) := by
  have HC := Lib.hid hC
  clear hC
  have HCQ := Lib.hid hCD
  clear hCD
  rw [show D.arr = #[.int .i64 D.pc, .int .i64 D.tp, .int .i64 (D.r 0), .int .i64 (D.r 1), .int .i64 (D.r 2), .int .i64 (D.r 3), .int .i64 (D.r 4), .int .i64 (D.r 5), .int .i64 (D.r 6), .int .i64 (D.r 7), .int .i64 (D.r 8), .int .i64 (D.r 9), .int .i64 (D.r 10), .int .i64 (D.r 11), .int .i64 (D.r 12), .int .i64 (D.r 13), .int .i64 (D.r 14), .int .i64 (D.r 15)] from rfl]
  have M0 := Lib.hid (((h.newcel 37 #[.int .i64 D.pc, .int .i64 D.tp, .int .i64 (D.r 0), .int .i64 (D.r 1), .int .i64 (D.r 2), .int .i64 (D.r 3), .int .i64 (D.r 4), .int .i64 (D.r 5), .int .i64 (D.r 6), .int .i64 (D.r 7), .int .i64 (D.r 8), .int .i64 (D.r 9), .int .i64 (D.r 10), .int .i64 (D.r 11), .int .i64 (D.r 12), .int .i64 (D.r 13), .int .i64 (D.r 14), .int .i64 (D.r 15)]).newcel 37 #[.int .i64 0, .int .i64 0, .int .i64 0, .int .i64 0, .int .i64 0, .int .i64 0, .int .i64 0, .int .i64 0, .int .i64 0, .int .i64 0, .int .i64 0, .int .i64 0, .int .i64 0, .int .i64 0, .int .i64 0, .int .i64 0, .int .i64 0, .int .i64 0]).newcel 40 #[.int .i64 0, .int .i64 0, .int .i64 0, .int .i64 0, .int .i64 0])
  go_enter Try.func18, Try.ntmps18
  go_upto_region 1 with (fail)
  have e1 : (wr.alloc (.cells #[.int .i64 D.pc, .int .i64 D.tp, .int .i64 (D.r 0), .int .i64 (D.r 1), .int .i64 (D.r 2), .int .i64 (D.r 3), .int .i64 (D.r 4), .int .i64 (D.r 5), .int .i64 (D.r 6), .int .i64 (D.r 7), .int .i64 (D.r 8), .int .i64 (D.r 9), .int .i64 (D.r 10), .int .i64 (D.r 11), .int .i64 (D.r 12), .int .i64 (D.r 13), .int .i64 (D.r 14), .int .i64 (D.r 15)] 37)).heap.size = wr.heap.size + 1 := by simp
  have e2 : ((wr.alloc (.cells #[.int .i64 D.pc, .int .i64 D.tp, .int .i64 (D.r 0), .int .i64 (D.r 1), .int .i64 (D.r 2), .int .i64 (D.r 3), .int .i64 (D.r 4), .int .i64 (D.r 5), .int .i64 (D.r 6), .int .i64 (D.r 7), .int .i64 (D.r 8), .int .i64 (D.r 9), .int .i64 (D.r 10), .int .i64 (D.r 11), .int .i64 (D.r 12), .int .i64 (D.r 13), .int .i64 (D.r 14), .int .i64 (D.r 15)] 37)).alloc (.cells #[.int .i64 0, .int .i64 0, .int .i64 0, .int .i64 0, .int .i64 0, .int .i64 0, .int .i64 0, .int .i64 0, .int .i64 0, .int .i64 0, .int .i64 0, .int .i64 0, .int .i64 0, .int .i64 0, .int .i64 0, .int .i64 0, .int .i64 0, .int .i64 0] 37)).heap.size = wr.heap.size + 1 + 1 := by simp
  rw [e2, e1] at M0
  obtain ⟨W, hW⟩ : ∃ W, (((wr.alloc (.cells #[.int .i64 D.pc, .int .i64 D.tp, .int .i64 (D.r 0), .int .i64 (D.r 1), .int .i64 (D.r 2), .int .i64 (D.r 3), .int .i64 (D.r 4), .int .i64 (D.r 5), .int .i64 (D.r 6), .int .i64 (D.r 7), .int .i64 (D.r 8), .int .i64 (D.r 9), .int .i64 (D.r 10), .int .i64 (D.r 11), .int .i64 (D.r 12), .int .i64 (D.r 13), .int .i64 (D.r 14), .int .i64 (D.r 15)] 37)).alloc (.cells #[.int .i64 0, .int .i64 0, .int .i64 0, .int .i64 0, .int .i64 0, .int .i64 0, .int .i64 0, .int .i64 0, .int .i64 0, .int .i64 0, .int .i64 0, .int .i64 0, .int .i64 0, .int .i64 0, .int .i64 0, .int .i64 0, .int .i64 0, .int .i64 0] 37)).alloc (.cells #[.int .i64 0, .int .i64 0, .int .i64 0, .int .i64 0, .int .i64 0] 40)) = W := ⟨_, rfl⟩
  rw [hW] at M0 ⊢
  clear e1 e2 hW
  generalize wr.heap.size + 1 + 1 = b2 at M0 ⊢
  generalize wr.heap.size + 1 = b1 at M0 ⊢
  generalize wr.heap.size = b0 at M0 ⊢
  have M1 : Hid (Has B w W (Star (Cel b2 40 #[.int .i64 0, .int .i64 0, .int .i64 0, .int .i64 0, .int .i64 0]) (Star (Cel b1 37 #[.int .i64 0, .int .i64 0, .int .i64 0, .int .i64 0, .int .i64 0, .int .i64 0, .int .i64 0, .int .i64 0, .int .i64 0, .int .i64 0, .int .i64 0, .int .i64 0, .int .i64 0, .int .i64 0, .int .i64 0, .int .i64 0, .int .i64 0, .int .i64 0]) (Star (Cel b0 37 D.arr) (Star (Rf c L) Y))))) := M0
  clear M0
  clear h
  have hpc : W.cell? ⟨b0, 0, none⟩ = some (.int .i64 D.pc) := M1.out.cellat b0 0 rfl
  have hz : (D.pc == 0) = false := beq_eq_false_iff_ne.2 h0
  have C1 := Lib.hid (told_own (M1.out.pick (Rf c L)) D HC.out)
  rw [HT] at C1
  have HT' := Lib.hid HT
  clear h0 HT
  go_wp2_with (first | (refine wpList_load_rowW rfl 37 _ rfl b0 rfl D.arr _ (M1.out.getc b0) Try.underlying37 rfl (by kernel_rfl) ?_))
  refine (C1.out).mono ?_
  rintro e w2 ⟨rfl, m2⟩
  clear M1 C1 hpc
  have M2 := Lib.hid (m2.newcel 30 #[.int .i64 0, .int .i64 0, .int .i64 0, .int .i64 0, .int .i64 0])
  have M3 := Lib.hid (M2.out.rowc w2.heap.size (insA ⟨op, a, b, cc, n⟩))
  clear m2
  go_upto_region 4 with (first | (refine wpList_store_row rfl 30 _ _ rfl w2.heap.size (insA ⟨op, a, b, cc, n⟩) rfl rfl 30 #[.int .i64 0, .int .i64 0, .int .i64 0, .int .i64 0, .int .i64 0] (M2.out.getc w2.heap.size) (by kernel_rfl) rfl (by kernel_rfl) ?_))
  obtain ⟨W3, hW⟩ : ∃ W3, (w2.alloc (.cells #[.int .i64 0, .int .i64 0, .int .i64 0, .int .i64 0, .int .i64 0] 30)).setRow w2.heap.size (insA ⟨op, a, b, cc, n⟩) = W3 := ⟨_, rfl⟩
  have M4 := M3
  rw [hW] at M4 ⊢
  clear hW M2 M3
  generalize w2.heap.size = b6 at M4 ⊢
  have M5 := Lib.hid (M4.out.newcel 37 #[.int .i64 0, .int .i64 0, .int .i64 0, .int .i64 0, .int .i64 0, .int .i64 0, .int .i64 0, .int .i64 0, .int .i64 0, .int .i64 0, .int .i64 0, .int .i64 0, .int .i64 0, .int .i64 0, .int .i64 0, .int .i64 0, .int .i64 0, .int .i64 0])
  have M6 := Lib.hid (M5.out.rowc W3.heap.size D.arr)
  go_upto_region 7 with (first | (refine wpList_load_rowW rfl 37 _ rfl b0 rfl D.arr _ (M4.out.getc b0) Try.underlying37 rfl (by kernel_rfl) ?_) | (refine wpList_store_row rfl 37 _ _ rfl W3.heap.size D.arr rfl rfl 37 #[.int .i64 0, .int .i64 0, .int .i64 0, .int .i64 0, .int .i64 0, .int .i64 0, .int .i64 0, .int .i64 0, .int .i64 0, .int .i64 0, .int .i64 0, .int .i64 0, .int .i64 0, .int .i64 0, .int .i64 0, .int .i64 0, .int .i64 0, .int .i64 0] (M5.out.getc W3.heap.size) (by kernel_rfl) rfl (by kernel_rfl) ?_))
  obtain ⟨W4, hW⟩ : ∃ W4, (W3.alloc (.cells #[.int .i64 0, .int .i64 0, .int .i64 0, .int .i64 0, .int .i64 0, .int .i64 0, .int .i64 0, .int .i64 0, .int .i64 0, .int .i64 0, .int .i64 0, .int .i64 0, .int .i64 0, .int .i64 0, .int .i64 0, .int .i64 0, .int .i64 0, .int .i64 0] 37)).setRow W3.heap.size D.arr = W4 := ⟨_, rfl⟩
  have M7 := M6
  rw [hW] at M7 ⊢
  clear hW M4 M5 M6
  generalize W3.heap.size = b8 at M7 ⊢
  have hpc : W4.cell? ⟨b0, 0, none⟩ = some (.int .i64 D.pc) := M7.out.cellat b0 0 rfl
  have ol : W4.cell? ⟨b8, 0, none⟩ = some (.int .i64 D.pc) := M7.out.cellat b8 0 rfl
  have lv : W4.frozen? ⟨b8, 0, none⟩ = false := M7.out.liveat b8 0
  have M8 := Lib.hid (M7.out.cellc b8 0 (.int .i64 (wrap64 (D.pc + 8))) (Ctx.arr { D with pc := wrap64 (D.pc + 8) }) rfl)
  go_upto_region 8 with (fail)
  obtain ⟨W5, hW⟩ : ∃ W5, W4.setCell ⟨b8, 0, none⟩ (.int .i64 (wrap64 (D.pc + 8))) = W5 := ⟨_, rfl⟩
  have M9 := M8
  rw [hW] at M9 ⊢
  clear hW M7 M8 hpc ol lv
  rw [HCQ.out] at M9
  have C2 := Lib.hid (HJ W5 _ inferInstance (M9.out.pick (Rf c L)))
  clear HJ
  go_wp2_with (first | (refine wpList_load_rowW rfl 37 _ rfl b8 rfl C.arr _ (M9.out.getc b8) Try.underlying37 rfl (by kernel_rfl) ?_) | (refine wpList_load_rowW rfl 37 _ rfl b0 rfl D.arr _ (M9.out.getc b0) Try.underlying37 rfl (by kernel_rfl) ?_) | (refine wpList_load_rowW rfl 30 _ rfl b6 rfl (insA ⟨op, a, b, cc, n⟩) _ (M9.out.getc b6) Try.underlying30 rfl (by kernel_rfl) ?_))
  refine (C2.out).mono ?_
  rintro e w3 ⟨rfl, m⟩
  clear M9 C2
  have es : (w3.alloc (.cells #[.int .i64 0, .int .i64 0, .int .i64 0, .int .i64 0, .int .i64 0, .int .i64 0, .int .i64 0, .int .i64 0, .int .i64 0, .int .i64 0, .int .i64 0, .int .i64 0, .int .i64 0, .int .i64 0, .int .i64 0, .int .i64 0, .int .i64 0, .int .i64 0] 37)).heap.size = w3.heap.size + 1 := by simp
  have Na := Lib.hid ((m.newcel 37 #[.int .i64 0, .int .i64 0, .int .i64 0, .int .i64 0, .int .i64 0, .int .i64 0, .int .i64 0, .int .i64 0, .int .i64 0, .int .i64 0, .int .i64 0, .int .i64 0, .int .i64 0, .int .i64 0, .int .i64 0, .int .i64 0, .int .i64 0, .int .i64 0]).newcel 40 #[.int .i64 0, .int .i64 0, .int .i64 0, .int .i64 0, .int .i64 0])
  rw [es] at Na
  have Nb := Lib.hid (Na.out.rowc w3.heap.size C.arr)
  have Nc := Lib.hid (Nb.out.rowc (w3.heap.size + 1) #[.int .i64 0, .int .i64 0, .int .i64 0, .int .i64 0, .int .i64 0])
  go_upto_region 9 with (first | (refine wpList_store_row rfl 37 _ _ rfl w3.heap.size C.arr rfl rfl 37 #[.int .i64 0, .int .i64 0, .int .i64 0, .int .i64 0, .int .i64 0, .int .i64 0, .int .i64 0, .int .i64 0, .int .i64 0, .int .i64 0, .int .i64 0, .int .i64 0, .int .i64 0, .int .i64 0, .int .i64 0, .int .i64 0, .int .i64 0, .int .i64 0] (Na.out.getc w3.heap.size) (by kernel_rfl) rfl (by kernel_rfl) ?_) | (refine wpList_store_row rfl 40 _ _ rfl (w3.heap.size + 1) #[.int .i64 0, .int .i64 0, .int .i64 0, .int .i64 0, .int .i64 0] rfl rfl 40 #[.int .i64 0, .int .i64 0, .int .i64 0, .int .i64 0, .int .i64 0] (Nb.out.getc (w3.heap.size + 1)) (by kernel_rfl) rfl (by kernel_rfl) ?_))
  obtain ⟨W6, hW⟩ : ∃ W6, (((w3.alloc (.cells #[.int .i64 0, .int .i64 0, .int .i64 0, .int .i64 0, .int .i64 0, .int .i64 0, .int .i64 0, .int .i64 0, .int .i64 0, .int .i64 0, .int .i64 0, .int .i64 0, .int .i64 0, .int .i64 0, .int .i64 0, .int .i64 0, .int .i64 0, .int .i64 0] 37)).alloc (.cells #[.int .i64 0, .int .i64 0, .int .i64 0, .int .i64 0, .int .i64 0] 40)).setRow w3.heap.size C.arr).setRow (w3.heap.size + 1) #[.int .i64 0, .int .i64 0, .int .i64 0, .int .i64 0, .int .i64 0] = W6 := ⟨_, rfl⟩
  have N1 := Nc
  rw [hW] at N1 ⊢
  clear hW es Na Nb Nc m
  generalize w3.heap.size + 1 = b10 at N1 ⊢
  generalize w3.heap.size = b9 at N1 ⊢
  have C3 := Lib.hid (HA W6)
  clear HA
  go_wp2_with (first | (refine wpList_load_rowW rfl 30 _ rfl b6 rfl (insA ⟨op, a, b, cc, n⟩) _ (N1.out.getc b6) Try.underlying30 rfl (by kernel_rfl) ?_) | (refine wpList_load_rowW rfl 37 _ rfl b8 rfl C.arr _ (N1.out.getc b8) Try.underlying37 rfl (by kernel_rfl) ?_))
  refine (C3.out).mono ?_
  rintro e w7 ⟨rfl, hb7⟩
  have N2 := Lib.hid (N1.out.stay hb7)
  clear N1 C3 hb7
  have N3 := Lib.hid (N2.out.rowc b10 E6.arr)
  go_upto_region 12 with (first | (refine wpList_store_row rfl 40 _ _ rfl b10 E6.arr rfl rfl 40 #[.int .i64 0, .int .i64 0, .int .i64 0, .int .i64 0, .int .i64 0] (N2.out.getc b10) (by kernel_rfl) rfl (by kernel_rfl) ?_))
  obtain ⟨W8, hW⟩ : ∃ W8, w7.setRow b10 E6.arr = W8 := ⟨_, rfl⟩
  have N4 := N3
  rw [hW] at N4 ⊢
  clear hW N2 N3
  have i0 : W8.cell? ⟨b6, 0, none⟩ = some (.int .i64 (op)) := N4.out.cellat b6 0 rfl
  have i1 : W8.cell? ⟨b6, 1, none⟩ = some (.int .i64 a) := N4.out.cellat b6 1 rfl
  have i2 : W8.cell? ⟨b6, 2, none⟩ = some (.int .i64 b) := N4.out.cellat b6 2 rfl
  have i3 : W8.cell? ⟨b6, 3, none⟩ = some (.int .i64 cc) := N4.out.cellat b6 3 rfl
  have i4 : W8.cell? ⟨b6, 4, none⟩ = some (.int .i64 n) := N4.out.cellat b6 4 rfl
  have hpc : W8.cell? ⟨b8, 0, none⟩ = some (.int .i64 C.pc) := N4.out.cellat b8 0 rfl
  have htp : W8.cell? ⟨b8, 1, none⟩ = some (.int .i64 C.tp) := N4.out.cellat b8 1 rfl
  have ra : W8.cell? ⟨b8, 2 + a, none⟩ = some (.int .i64 (C.r a)) := N4.out.cellat b8 (2 + a) (ctx_reg _ ha)
  have rb : W8.cell? ⟨b8, 2 + b, none⟩ = some (.int .i64 (C.r b)) := N4.out.cellat b8 (2 + b) (ctx_reg _ hb)
  have rc : W8.cell? ⟨b8, 2 + cc, none⟩ = some (.int .i64 (C.r cc)) := N4.out.cellat b8 (2 + cc) (ctx_reg _ hcc)
  have fa : W8.frozen? ⟨b8, 2 + a, none⟩ = false := N4.out.liveat b8 (2 + a)
  have na0 : (0 : Int) ≤ (a : Int) := by omega
  have na1 : (a : Int) < 16 := by omega
  have nb0 : (0 : Int) ≤ (b : Int) := by omega
  have nb1 : (b : Int) < 16 := by omega
  have nc0 : (0 : Int) ≤ (cc : Int) := by omega
  have nc1 : (cc : Int) < 16 := by omega
  clear HCQ HC
  have q0 : (op == 0) = false := beq_eq_false_iff_ne.2 (by omega)
  have q1 : (op == 1) = false := beq_eq_false_iff_ne.2 (by omega)
  have q2 : (op == 2) = false := beq_eq_false_iff_ne.2 (by omega)
  have q9 : (op == 9) = false := beq_eq_false_iff_ne.2 (by omega)
  have q10 : (op == 10) = false := beq_eq_false_iff_ne.2 (by omega)
  have q11 : (op == 11) = false := beq_eq_false_iff_ne.2 (by omega)
  have q12 : (op == 12) = false := beq_eq_false_iff_ne.2 (by omega)
  have q20 : (op == 20) = false := beq_eq_false_iff_ne.2 (by omega)
  have C4 := Lib.hid (reckoned_any op (C.r b) (C.r cc) h3 W8.drew)
  obtain ⟨⟨v, E⟩, hQ⟩ : ∃ Q, rkS op (C.r b) (C.r cc) = Q := ⟨_, rfl⟩
  rw [hQ] at C4
  have HQ := Lib.hid hQ
  clear hQ
  simp only at C4
  go_wp2_with fail
  have N5 := Lib.hid (N4.out.stay below_drw)
  clear N4 h3 i0 i1 i2 i3 i4 hpc htp ra rb rc fa q0 q1 q2 q9 q10 q11 q12 q20
  refine wp_region_noPanic ?_
  refine wp_region_held_drew (S := fun X => Blk X b8 37 C.arr ∧ Blk X b6 30 (insA ⟨op, a, b, cc, n⟩)) (by kernel_rfl) ⟨N5.out.getc b8, N5.out.getc b6⟩ ?_
  intro hS
  refine wpAnyH_take (i := 0) (v := .pointer (some ⟨b6, 0, none⟩)) rfl (by kernel_rfl) (by kernel_rfl) (by kernel_rfl) (fun _ _ _ h => h) (yields_pure rfl (fun w => by kernel_rfl)) hS ?_
  refine wpAnyH_take (i := 1) rfl (by kernel_rfl) (by kernel_rfl) (by kernel_rfl) (fun _ _ _ h => h) (yields_load_cell rfl 28 _ rfl b6 0 (by kernel_rfl) (.int .i64 op) (fun w h => by rw [(h.2).cell]; rfl) _ Try.underlying28 rfl) hS ?_
  refine wpAnyH_take (i := 2) (v := .pointer (some ⟨b6, 2, none⟩)) rfl (by kernel_rfl) (by kernel_rfl) (by kernel_rfl) (fun _ _ _ h => h) (yields_pure rfl (fun w => by kernel_rfl)) hS ?_
  refine wpAnyH_take (i := 3) rfl (by kernel_rfl) (by kernel_rfl) (by kernel_rfl) (fun _ _ _ h => h) (yields_load_cell rfl 3 _ rfl b6 2 (by kernel_rfl) (.int .i64 b) (fun w h => by rw [(h.2).cell]; exact rfl) _ Try.underlying3 rfl) hS ?_
  refine wpAnyH_take (i := 4) (v := .pointer (some ⟨b8, 2, none⟩)) rfl (by kernel_rfl) (by kernel_rfl) (by kernel_rfl) (fun _ _ _ h => h) (yields_pure rfl (fun w => by kernel_rfl)) hS ?_
  refine wpAnyH_take (i := 5) rfl (by kernel_rfl) (by kernel_rfl) (by kernel_rfl) (fun _ _ _ h => h) (yields_index rfl _ _ rfl b8 2 b (by kernel_rfl) (by kernel_rfl) Try.underlying35 (by kernel_rfl) hb) hS ?_
  refine wpAnyH_take (i := 6) rfl (by kernel_rfl) (by kernel_rfl) (by kernel_rfl) (fun _ _ _ h => h) (yields_load_cell rfl 3 _ rfl b8 (2 + b) (by kernel_rfl) (.int .i64 (C.r b)) (fun w h => by rw [(h.1).cell]; exact ctx_reg _ hb) _ Try.underlying3 rfl) hS ?_
  refine wpAnyH_take (i := 7) (v := .pointer (some ⟨b6, 3, none⟩)) rfl (by kernel_rfl) (by kernel_rfl) (by kernel_rfl) (fun _ _ _ h => h) (yields_pure rfl (fun w => by kernel_rfl)) hS ?_
  refine wpAnyH_take (i := 8) rfl (by kernel_rfl) (by kernel_rfl) (by kernel_rfl) (fun _ _ _ h => h) (yields_load_cell rfl 3 _ rfl b6 3 (by kernel_rfl) (.int .i64 cc) (fun w h => by rw [(h.2).cell]; exact rfl) _ Try.underlying3 rfl) hS ?_
  refine wpAnyH_take (i := 9) (v := .pointer (some ⟨b8, 2, none⟩)) rfl (by kernel_rfl) (by kernel_rfl) (by kernel_rfl) (fun _ _ _ h => h) (yields_pure rfl (fun w => by kernel_rfl)) hS ?_
  refine wpAnyH_take (i := 10) rfl (by kernel_rfl) (by kernel_rfl) (by kernel_rfl) (fun _ _ _ h => h) (yields_index rfl _ _ rfl b8 2 cc (by kernel_rfl) (by kernel_rfl) Try.underlying35 (by kernel_rfl) hcc) hS ?_
  refine wpAnyH_take (i := 11) rfl (by kernel_rfl) (by kernel_rfl) (by kernel_rfl) (fun _ _ _ h => h) (yields_load_cell rfl 3 _ rfl b8 (2 + cc) (by kernel_rfl) (.int .i64 (C.r cc)) (fun w h => by rw [(h.1).cell]; exact ctx_reg _ hcc) _ Try.underlying3 rfl) hS ?_
  refine wpAnyH_all (rs := [12]) (by kernel_rfl) (by simp) ?_
  intro i hi
  obtain rfl : i = 12 := by simpa using hi
  refine wpOp_call rfl rfl _ _ _ rfl _ (by kernel_rfl) ((C4.out).mono ?_)
  rintro e w9 ⟨rfl, rfl⟩
  refine ⟨_, rfl, hS, ?_⟩
  refine wpAnyH_take (i := 13) (v := .tuple #[.int .i64 v, .bool (decide (E = 0))]) rfl (by kernel_rfl) (by kernel_rfl) (by kernel_rfl) (fun _ _ _ h => h) (yields_pure rfl (fun w => by kernel_rfl)) hS ?_
  refine wpAnyH_take (i := 14) (v := .int .i64 v) rfl (by kernel_rfl) (by kernel_rfl) (by kernel_rfl) (fun _ _ _ h => h) (yields_pure rfl (fun w => by kernel_rfl)) hS ?_
  refine wpAnyH_take (i := 15) (v := .bool (decide (E = 0))) rfl (by kernel_rfl) (by kernel_rfl) (by kernel_rfl) (fun _ _ _ h => h) (yields_pure rfl (fun w => by kernel_rfl)) hS ?_
  refine wpAnyH_take (i := 16) (v := .int .i64 v) rfl (by kernel_rfl) (by kernel_rfl) (by kernel_rfl) (fun _ _ _ h => h) (yields_pure rfl (fun w => by kernel_rfl)) hS ?_
  refine wpAnyH_take (i := 17) (v := .bool (decide (E = 0))) rfl (by kernel_rfl) (by kernel_rfl) (by kernel_rfl) (fun _ _ _ h => h) (yields_pure rfl (fun w => by kernel_rfl)) hS ?_
  refine wpAnyH_done (by kernel_rfl) ?_ _
  refine NoPanic.normal ?_
  clear C4 hS
  have i1 : W8.drew.cell? ⟨b6, 1, none⟩ = some (.int .i64 a) := N5.out.cellat b6 1 rfl
  have ra : W8.drew.cell? ⟨b8, 2 + a, none⟩ = some (.int .i64 (C.r a)) := N5.out.cellat b8 (2 + a) (ctx_reg _ ha)
  have fa : W8.drew.frozen? ⟨b8, 2 + a, none⟩ = false := N5.out.liveat b8 (2 + a)
  obtain ⟨W9, hW9⟩ : ∃ W9, W8.drew = W9 := ⟨_, rfl⟩
  rw [hW9] at N5 i1 ra fa ⊢
  clear hW9
  by_cases hq : E = 0
  · have HQN := Lib.hid hq
    have hqd : decide (E = 0) = true := decide_eq_true hq
    try simp only [hqd]
    have P1 := Lib.hid (N5.out.cellc b8 (2 + a) (.int .i64 (v)) (Ctx.arr { C with r := upd C.r a (v) }) (ctx_set _ ha _).symm)
    obtain ⟨C2, hC2⟩ : ∃ C2 : Ctx, { C with r := upd C.r a (v) } = C2 := ⟨_, rfl⟩
    rw [hC2] at P1
    have HC2 := Lib.hid hC2
    clear hC2 ha hb hcc HT' N5
    have P2 := Lib.hid (P1.out.rowc b1 C2.arr)
    have P3 := Lib.hid (P2.out.rowc b2 #[.int .i64 0, .int .i64 0, .int .i64 0, .int .i64 0, .int .i64 0])
    go_wp2_with (first | (refine wpList_load_rowW rfl 37 _ rfl b8 rfl C2.arr _ (P1.out.getc b8) Try.underlying37 rfl (by kernel_rfl) ?_) | (refine wpList_store_row rfl 37 _ _ rfl b1 C2.arr rfl rfl 37 #[.int .i64 0, .int .i64 0, .int .i64 0, .int .i64 0, .int .i64 0, .int .i64 0, .int .i64 0, .int .i64 0, .int .i64 0, .int .i64 0, .int .i64 0, .int .i64 0, .int .i64 0, .int .i64 0, .int .i64 0, .int .i64 0, .int .i64 0, .int .i64 0] (P1.out.getc b1) (by kernel_rfl) rfl (by kernel_rfl) ?_) | (refine wpList_store_row rfl 40 _ _ rfl b2 #[.int .i64 0, .int .i64 0, .int .i64 0, .int .i64 0, .int .i64 0] rfl rfl 40 #[.int .i64 0, .int .i64 0, .int .i64 0, .int .i64 0, .int .i64 0] (P2.out.getc b2) (by kernel_rfl) rfl (by kernel_rfl) ?_))
    try simp only [Exit.inBlock, Exit.then]
    refine bodyPost_ret (results_cell2_row (p := 4) (u := 5) (ty := 37) (uy := 40) rfl _ _ b1 b2 37 40 C2.arr #[.int .i64 0, .int .i64 0, .int .i64 0, .int .i64 0, .int .i64 0] _ _ (by kernel_rfl) (P3.out.getc b1) Try.underlying37 rfl (by kernel_rfl) (by kernel_rfl) (P3.out.getc b2) Try.underlying40 rfl (by kernel_rfl)) rfl ?_
    exact ⟨by rw [HQ.out, show rknS C D L a (v, E) = _ from if_pos HQN.out, ← HC2.out]; first | done | rfl, by rw [HQ.out, show rknS C D L a (v, E) = _ from if_pos HQN.out]; exact P3.out.back (Rf c L) Y⟩
  · have HQN := Lib.hid hq
    have hqd : decide (E = 0) = false := decide_eq_false hq
    try simp only [hqd]
    clear hqd hq i1 ra fa
    have CT := Lib.hid (trapped_any D (1 : Int) W9)
    go_wp2_with (first | (refine wpList_load_rowW rfl 37 _ rfl b0 rfl D.arr _ (N5.out.getc b0) Try.underlying37 rfl (by kernel_rfl) ?_))
    refine (CT.out).mono ?_
    rintro e w8 ⟨rfl, hb8⟩
    have M8 := Lib.hid (N5.out.stay hb8)
    clear CT N5 hb8
    have M9 := Lib.hid (M8.out.rowc b1 D.arr)
    have MX := Lib.hid (M9.out.rowc b2 (trapV 1).arr)
    go_wp2_with (first | (refine wpList_store_row rfl 37 _ _ rfl b1 D.arr rfl rfl 37 #[.int .i64 0, .int .i64 0, .int .i64 0, .int .i64 0, .int .i64 0, .int .i64 0, .int .i64 0, .int .i64 0, .int .i64 0, .int .i64 0, .int .i64 0, .int .i64 0, .int .i64 0, .int .i64 0, .int .i64 0, .int .i64 0, .int .i64 0, .int .i64 0] (M8.out.getc b1) (by kernel_rfl) rfl (by kernel_rfl) ?_) | (refine wpList_store_row rfl 40 _ _ rfl b2 (trapV 1).arr rfl rfl 40 #[.int .i64 0, .int .i64 0, .int .i64 0, .int .i64 0, .int .i64 0] (M9.out.getc b2) (by kernel_rfl) rfl (by kernel_rfl) ?_))
    try simp only [Exit.inBlock, Exit.then]
    refine bodyPost_ret (results_cell2_row (p := 4) (u := 5) (ty := 37) (uy := 40) rfl _ _ b1 b2 37 40 D.arr (trapV 1).arr _ _ (by kernel_rfl) (MX.out.getc b1) Try.underlying37 rfl (by kernel_rfl) (by kernel_rfl) (MX.out.getc b2) Try.underlying40 rfl (by kernel_rfl)) rfl ?_
    exact ⟨by rw [HQ.out, show rknS C D L a (v, E) = _ from if_neg HQN.out]; first | done | rfl, by rw [HQ.out, show rknS C D L a (v, E) = _ from if_neg HQN.out]; exact MX.out.back (Rf c L) Y⟩
end
end Go.Proofs.Ytkpaeogjefjbfaa
