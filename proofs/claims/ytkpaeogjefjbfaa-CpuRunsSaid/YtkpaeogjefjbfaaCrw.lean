/-
  Layer 6: the walk of CpuRuns.
  Conditions: none. (My own text.)
-/
import Derived.Test.YtkpaeogjefjbfaaCop
import Derived.Test.YtkpaeogjefjbfaaCaw
import Derived.Test.YtkpaeogjefjbfaaCrz
import Derived.Test.YtkpaeogjefjbfaaBo
namespace Go.Proofs.Ytkpaeogjefjbfaa
open Go.RowKit Spm
set_option linter.unusedVariables false
set_option linter.unusedSimpArgs false

set_option maxRecDepth 100000 in
set_option maxHeartbeats 8000000 in
theorem runs_walk (va vc : Value) (l : List ActM) (is : List Ins) (at_ : Int) (C : Ctx) (most : Int) (w : World) (hv : ActsV w w.heap.size va l) (hi : RowsAt 5 Ins.cells w (fun k => k < w.heap.size) vc is) (hat : I64 at_) (hC : CtxOk C) (hm : I64 most) : Calls Try.prog 6 #[.agg (caseA va vc at_ C), .int .i64 most] w fun e w' => e = .returned (.bool true) ∧ Below w.heap.size w w' := by
  have HB := Lib.hid ((Has.start (Below.refl w.heap.size w) (Nat.le_refl _)).newcel 46 #[va, vc, .int .i64 at_, .int .i64 C.pc, .int .i64 C.tp, .int .i64 (C.r 0), .int .i64 (C.r 1), .int .i64 (C.r 2), .int .i64 (C.r 3), .int .i64 (C.r 4), .int .i64 (C.r 5), .int .i64 (C.r 6), .int .i64 (C.r 7), .int .i64 (C.r 8), .int .i64 (C.r 9), .int .i64 (C.r 10), .int .i64 (C.r 11), .int .i64 (C.r 12), .int .i64 (C.r 13), .int .i64 (C.r 14), .int .i64 (C.r 15)])
  have HV := Lib.hid hv
  have HI := Lib.hid hi
  have HAT := Lib.hid hat
  have HC := Lib.hid hC
  clear hv hi hat hC
  rw [show (caseA va vc at_ C) = #[va, vc, .int .i64 at_, .int .i64 C.pc, .int .i64 C.tp, .int .i64 (C.r 0), .int .i64 (C.r 1), .int .i64 (C.r 2), .int .i64 (C.r 3), .int .i64 (C.r 4), .int .i64 (C.r 5), .int .i64 (C.r 6), .int .i64 (C.r 7), .int .i64 (C.r 8), .int .i64 (C.r 9), .int .i64 (C.r 10), .int .i64 (C.r 11), .int .i64 (C.r 12), .int .i64 (C.r 13), .int .i64 (C.r 14), .int .i64 (C.r 15)] from rfl]
  go_enter Try.func6, Try.ntmps6
  go_wp2_with fail
  obtain ⟨w1, hw1⟩ : ∃ w1, w.alloc (.cells #[va, vc, .int .i64 at_, .int .i64 C.pc, .int .i64 C.tp, .int .i64 (C.r 0), .int .i64 (C.r 1), .int .i64 (C.r 2), .int .i64 (C.r 3), .int .i64 (C.r 4), .int .i64 (C.r 5), .int .i64 (C.r 6), .int .i64 (C.r 7), .int .i64 (C.r 8), .int .i64 (C.r 9), .int .i64 (C.r 10), .int .i64 (C.r 11), .int .i64 (C.r 12), .int .i64 (C.r 13), .int .i64 (C.r 14), .int .i64 (C.r 15)] 46) = w1 := ⟨_, rfl⟩
  rw [hw1] at HB ⊢
  clear hw1
  generalize hBq : w.heap.size = B at HB HV HI ⊢
  have HBQ := Lib.hid hBq
  clear hBq
  have HB1 : Hid (Has B w w1 (Star (Cel B 46 (caseA va vc at_ C)) Emp)) := HB
  clear HB
  refine (awake06 w1).mono ?_
  rintro e w2 ⟨rfl, hb, hl⟩
  have M2 := Lib.hid (HB1.out.stay hb)
  clear hb hl HB1
  have hmx : most ≤ 9223372036854775807 := hm.2
  clear hm
  by_cases h3 : 300 < most
  · have MZ := Lib.hid M2.out.bel
    go_wp2
    go_ret
    exact ⟨rfl, by rw [HBQ.out]; exact MZ.out⟩
  · go_wp2_with (first | (refine wpList_load_rowW rfl 46 _ rfl B rfl (caseA va vc at_ C) _ M2.out.cel Try.underlying46 rfl (by kernel_rfl) ?_))
    refine (both_at M2.out HV.out HI.out HAT.out C).mono ?_
    rintro e w3 ⟨a, c, rfl, m3⟩
    obtain ⟨L, hLq⟩ : ∃ L, (codeS (playS [] (l.map (·.x))) at_ is).1 = L := ⟨_, rfl⟩
    rw [hLq] at m3
    have M3 := Lib.hid m3
    clear m3 M2 hLq
    obtain ⟨⟨D, E, k, L2⟩, hQ⟩ : ∃ Q, runS C L most = Q := ⟨_, rfl⟩
    have S1 := Lib.hid (run_any (M3.out.pick (Sp a L)) HC.out most hmx)
    rw [hQ] at S1
    unfold RunE at S1
    simp only [Ctx.val_arr, Evt.val_arr] at S1
    go_wp2_with (first | (refine wpList_load_part rfl 37 _ rfl B 3 rfl C.arr _ (fun j v h => by rw [(M3.out.getc B).cell]; exact case_ctx va vc at_ C j v h) Try.underlying37 rfl (by kernel_rfl) ?_))
    refine (S1.out).mono ?_
    rintro e w5 ⟨rfl, m⟩
    have es : (w5.alloc (.cells #[.int .i64 0, .int .i64 0, .int .i64 0, .int .i64 0, .int .i64 0, .int .i64 0, .int .i64 0, .int .i64 0, .int .i64 0, .int .i64 0, .int .i64 0, .int .i64 0, .int .i64 0, .int .i64 0, .int .i64 0, .int .i64 0, .int .i64 0, .int .i64 0] 37)).heap.size = w5.heap.size + 1 := by simp
    have Na := Lib.hid ((m.newcel 37 #[.int .i64 0, .int .i64 0, .int .i64 0, .int .i64 0, .int .i64 0, .int .i64 0, .int .i64 0, .int .i64 0, .int .i64 0, .int .i64 0, .int .i64 0, .int .i64 0, .int .i64 0, .int .i64 0, .int .i64 0, .int .i64 0, .int .i64 0, .int .i64 0]).newcel 40 #[.int .i64 0, .int .i64 0, .int .i64 0, .int .i64 0, .int .i64 0])
    rw [es] at Na
    have Nb := Lib.hid (Na.out.rowc w5.heap.size D.arr)
    have Nc := Lib.hid (Nb.out.rowc (w5.heap.size + 1) E.arr)
    go_upto_region 8 with (first | (refine wpList_store_row rfl 37 _ _ rfl w5.heap.size D.arr rfl rfl 37 #[.int .i64 0, .int .i64 0, .int .i64 0, .int .i64 0, .int .i64 0, .int .i64 0, .int .i64 0, .int .i64 0, .int .i64 0, .int .i64 0, .int .i64 0, .int .i64 0, .int .i64 0, .int .i64 0, .int .i64 0, .int .i64 0, .int .i64 0, .int .i64 0] (Na.out.getc w5.heap.size) (by kernel_rfl) rfl (by kernel_rfl) ?_) | (refine wpList_store_row rfl 40 _ _ rfl (w5.heap.size + 1) E.arr rfl rfl 40 #[.int .i64 0, .int .i64 0, .int .i64 0, .int .i64 0, .int .i64 0] (Nb.out.getc (w5.heap.size + 1)) (by kernel_rfl) rfl (by kernel_rfl) ?_))
    obtain ⟨W5, hW⟩ : ∃ W5, (((w5.alloc (.cells #[.int .i64 0, .int .i64 0, .int .i64 0, .int .i64 0, .int .i64 0, .int .i64 0, .int .i64 0, .int .i64 0, .int .i64 0, .int .i64 0, .int .i64 0, .int .i64 0, .int .i64 0, .int .i64 0, .int .i64 0, .int .i64 0, .int .i64 0, .int .i64 0] 37)).alloc (.cells #[.int .i64 0, .int .i64 0, .int .i64 0, .int .i64 0, .int .i64 0] 40)).setRow w5.heap.size D.arr).setRow (w5.heap.size + 1) E.arr = W5 := ⟨_, rfl⟩
    have M5 := Nc
    rw [hW] at M5 ⊢
    clear hW es Na Nb Nc m S1 M3
    generalize w5.heap.size + 1 = e5 at M5 ⊢
    generalize w5.heap.size = x5 at M5 ⊢
    have S2 := Lib.hid (rrun_any (M5.out.pick (Rf c L)) C HC.out most hmx)
    rw [hQ] at S2
    clear hQ
    unfold RRunE at S2
    simp only at S2
    go_wp2_with (first | (refine wpList_load_part rfl 37 _ rfl B 3 rfl C.arr _ (fun j v h => by rw [(M5.out.getc B).cell]; exact case_ctx va vc at_ C j v h) Try.underlying37 rfl (by kernel_rfl) ?_))
    refine (S2.out).mono ?_
    rintro e w6 ⟨rfl, m⟩
    have es : (w6.alloc (.cells #[.int .i64 0, .int .i64 0, .int .i64 0, .int .i64 0, .int .i64 0, .int .i64 0, .int .i64 0, .int .i64 0, .int .i64 0, .int .i64 0, .int .i64 0, .int .i64 0, .int .i64 0, .int .i64 0, .int .i64 0, .int .i64 0, .int .i64 0, .int .i64 0] 37)).heap.size = w6.heap.size + 1 := by simp
    have Na := Lib.hid ((m.newcel 37 #[.int .i64 0, .int .i64 0, .int .i64 0, .int .i64 0, .int .i64 0, .int .i64 0, .int .i64 0, .int .i64 0, .int .i64 0, .int .i64 0, .int .i64 0, .int .i64 0, .int .i64 0, .int .i64 0, .int .i64 0, .int .i64 0, .int .i64 0, .int .i64 0]).newcel 40 #[.int .i64 0, .int .i64 0, .int .i64 0, .int .i64 0, .int .i64 0])
    rw [es] at Na
    have Nb := Lib.hid (Na.out.rowc w6.heap.size D.arr)
    have Nc := Lib.hid (Nb.out.rowc (w6.heap.size + 1) E.arr)
    go_upto_region 9 with (first | (refine wpList_store_row rfl 37 _ _ rfl w6.heap.size D.arr rfl rfl 37 #[.int .i64 0, .int .i64 0, .int .i64 0, .int .i64 0, .int .i64 0, .int .i64 0, .int .i64 0, .int .i64 0, .int .i64 0, .int .i64 0, .int .i64 0, .int .i64 0, .int .i64 0, .int .i64 0, .int .i64 0, .int .i64 0, .int .i64 0, .int .i64 0] (Na.out.getc w6.heap.size) (by kernel_rfl) rfl (by kernel_rfl) ?_) | (refine wpList_store_row rfl 40 _ _ rfl (w6.heap.size + 1) E.arr rfl rfl 40 #[.int .i64 0, .int .i64 0, .int .i64 0, .int .i64 0, .int .i64 0] (Nb.out.getc (w6.heap.size + 1)) (by kernel_rfl) rfl (by kernel_rfl) ?_))
    obtain ⟨W6, hW⟩ : ∃ W6, (((w6.alloc (.cells #[.int .i64 0, .int .i64 0, .int .i64 0, .int .i64 0, .int .i64 0, .int .i64 0, .int .i64 0, .int .i64 0, .int .i64 0, .int .i64 0, .int .i64 0, .int .i64 0, .int .i64 0, .int .i64 0, .int .i64 0, .int .i64 0, .int .i64 0, .int .i64 0] 37)).alloc (.cells #[.int .i64 0, .int .i64 0, .int .i64 0, .int .i64 0, .int .i64 0] 40)).setRow w6.heap.size D.arr).setRow (w6.heap.size + 1) E.arr = W6 := ⟨_, rfl⟩
    have M6 := Nc
    rw [hW] at M6 ⊢
    clear hW es Na Nb Nc m S2 M5
    generalize w6.heap.size + 1 = e6 at M6 ⊢
    generalize w6.heap.size = x6 at M6 ⊢
    have A1 := Lib.hid (alike06 ((M6.out.pick (Rf c L2)).pick (Sp a L2)))
    go_wp2_with (first | (refine wpList_load_rowW rfl 37 _ rfl x5 rfl D.arr _ (M6.out.getc x5) Try.underlying37 rfl (by kernel_rfl) ?_) | (refine wpList_load_rowW rfl 37 _ rfl x6 rfl D.arr _ (M6.out.getc x6) Try.underlying37 rfl (by kernel_rfl) ?_) | (refine wpList_eql_self rfl 37 _ _ _ rfl D.arr rfl rfl (by kernel_rfl) (eql_ctx D) ?_) | (refine wpList_load_rowW rfl 40 _ rfl e5 rfl E.arr _ (M6.out.getc e5) Try.underlying40 rfl (by kernel_rfl) ?_) | (refine wpList_load_rowW rfl 40 _ rfl e6 rfl E.arr _ (M6.out.getc e6) Try.underlying40 rfl (by kernel_rfl) ?_) | (refine wpList_eql_self rfl 40 _ _ _ rfl E.arr rfl rfl (by kernel_rfl) (eql_evt E) ?_))
    refine (A1.out).mono ?_
    rintro e wz ⟨rfl, mz⟩
    have MZ := Lib.hid mz.bel
    clear mz A1 M6
    go_wp2
    go_ret
    exact ⟨rfl, by rw [HBQ.out]; exact MZ.out⟩

end Go.Proofs.Ytkpaeogjefjbfaa
