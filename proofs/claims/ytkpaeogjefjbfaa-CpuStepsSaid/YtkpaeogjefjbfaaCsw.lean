/-
  Layer 6: the walk of CpuSteps.
  Conditions: none. (My own text.)
-/
import Derived.Test.YtkpaeogjefjbfaaCop
import Derived.Test.YtkpaeogjefjbfaaCaw
import Derived.Test.YtkpaeogjefjbfaaCrz
import Derived.Test.YtkpaeogjefjbfaaBo
namespace Go.Proofs.Ytkpaeogjefjbfaa
open Go.RowKit Spm
set_option linter.unusedVariables false
set_option linter.unusedSimpArgs false

structure StI (B : Nat) (w : World) (a c b9 b10 : Nat) (K : Array Value) (N : Nat) (i : Value) (wr : World) (k : Nat) (D : Ctx) (L : List Rg) : Prop where
  le : k ≤ N
  i : i = .int .i64 k
  own : Has B w wr (Star (Cel b10 37 D.arr) (Star (Cel b9 37 D.arr) (Star (Sp a L) (Star (Rf c L) Emp))))
  ok : CtxOk D
set_option maxRecDepth 100000 in
set_option maxHeartbeats 8000000 in
theorem steps_walk (va vc : Value) (l : List ActM) (is : List Ins) (at_ : Int) (C : Ctx) (n : Int) (w : World) (hv : ActsV w w.heap.size va l) (hi : RowsAt 5 Ins.cells w (fun k => k < w.heap.size) vc is) (hat : I64 at_) (hC : CtxOk C) (hn : 0 ≤ n ∧ n ≤ 255) : Calls Try.prog 5 #[.agg (caseA va vc at_ C), .int .u8 n] w fun e w' => e = .returned (.bool true) ∧ Below w.heap.size w w' := by
  have HB := Lib.hid ((Has.start (Below.refl w.heap.size w) (Nat.le_refl _)).newcel 46 #[va, vc, .int .i64 at_, .int .i64 C.pc, .int .i64 C.tp, .int .i64 (C.r 0), .int .i64 (C.r 1), .int .i64 (C.r 2), .int .i64 (C.r 3), .int .i64 (C.r 4), .int .i64 (C.r 5), .int .i64 (C.r 6), .int .i64 (C.r 7), .int .i64 (C.r 8), .int .i64 (C.r 9), .int .i64 (C.r 10), .int .i64 (C.r 11), .int .i64 (C.r 12), .int .i64 (C.r 13), .int .i64 (C.r 14), .int .i64 (C.r 15)])
  have HV := Lib.hid hv
  have HI := Lib.hid hi
  have HAT := Lib.hid hat
  have HC := Lib.hid hC
  clear hv hi hat hC
  rw [show (caseA va vc at_ C) = #[va, vc, .int .i64 at_, .int .i64 C.pc, .int .i64 C.tp, .int .i64 (C.r 0), .int .i64 (C.r 1), .int .i64 (C.r 2), .int .i64 (C.r 3), .int .i64 (C.r 4), .int .i64 (C.r 5), .int .i64 (C.r 6), .int .i64 (C.r 7), .int .i64 (C.r 8), .int .i64 (C.r 9), .int .i64 (C.r 10), .int .i64 (C.r 11), .int .i64 (C.r 12), .int .i64 (C.r 13), .int .i64 (C.r 14), .int .i64 (C.r 15)] from rfl]
  go_enter Try.func5, Try.ntmps5
  go_wp2_with fail
  obtain ⟨w1, hw1⟩ : ∃ w1, w.alloc (.cells #[va, vc, .int .i64 at_, .int .i64 C.pc, .int .i64 C.tp, .int .i64 (C.r 0), .int .i64 (C.r 1), .int .i64 (C.r 2), .int .i64 (C.r 3), .int .i64 (C.r 4), .int .i64 (C.r 5), .int .i64 (C.r 6), .int .i64 (C.r 7), .int .i64 (C.r 8), .int .i64 (C.r 9), .int .i64 (C.r 10), .int .i64 (C.r 11), .int .i64 (C.r 12), .int .i64 (C.r 13), .int .i64 (C.r 14), .int .i64 (C.r 15)] 46) = w1 := ⟨_, rfl⟩
  rw [hw1] at HB ⊢
  clear hw1
  generalize hBq : w.heap.size = B at HB HV HI ⊢
  have HBQ := Lib.hid hBq
  clear hBq
  have HB1 : Hid (Has B w w1 (Star (Cel B 46 (caseA va vc at_ C)) Emp)) := HB
  clear HB
  refine (awake06 w1).mono ?_
  rintro e w2 ⟨rfl, hb, hl⟩
  have M2 := Lib.hid (HB1.out.stay hb)
  clear hb hl HB1
  go_wp2_with (first | (refine wpList_load_rowW rfl 46 _ rfl B rfl (caseA va vc at_ C) _ M2.out.cel Try.underlying46 rfl (by kernel_rfl) ?_))
  refine (both_at M2.out HV.out HI.out HAT.out C).mono ?_
  rintro e w3 ⟨a, c, rfl, m3⟩
  obtain ⟨L, hLq⟩ : ∃ L, (codeS (playS [] (l.map (·.x))) at_ is).1 = L := ⟨_, rfl⟩
  rw [hLq] at m3
  have M3 := Lib.hid m3
  clear m3 M2 hLq
  have hn40 := Int.tmod_eq_emod_of_nonneg (b := 40) hn.1
  obtain ⟨p, hp⟩ : ∃ p : Nat, n.tmod 40 = p := ⟨(n.tmod 40).toNat, by omega⟩
  have hp1 : (p : Int) < 40 := by omega
  have hp2 : p < 40 := by omega
  clear hn40
  go_wp2_with fail
  have N0 := Lib.hid (M3.out.stay below_drw)
  clear M3
  refine wp_region_noPanic ?_
  refine wp_region_held_drew (S := fun X => Blk X B 46 (caseA va vc at_ C)) (by kernel_rfl) (N0.out.getc B) ?_
  intro hS
  refine wpAnyH_take (i := 0) (v := .pointer (some ⟨B, 3, none⟩)) rfl (by kernel_rfl) (by kernel_rfl) (by kernel_rfl) (fun _ _ _ h => h) (yields_pure rfl (fun w => by kernel_rfl)) hS ?_
  refine wpAnyH_take (i := 1) rfl (by kernel_rfl) (by kernel_rfl) (by kernel_rfl) (fun _ _ _ h => h) (yields_load_part rfl 37 _ rfl B 3 (by kernel_rfl) C.arr _ (fun w h j v hj => by rw [h.cell]; exact case_ctx va vc at_ C j v hj) Try.underlying37 rfl (by kernel_rfl)) hS ?_
  refine wpAnyH_take (i := 2) (v := .pointer (some ⟨B, 3, none⟩)) rfl (by kernel_rfl) (by kernel_rfl) (by kernel_rfl) (fun _ _ _ h => h) (yields_pure rfl (fun w => by kernel_rfl)) hS ?_
  refine wpAnyH_take (i := 3) rfl (by kernel_rfl) (by kernel_rfl) (by kernel_rfl) (fun _ _ _ h => h) (yields_load_part rfl 37 _ rfl B 3 (by kernel_rfl) C.arr _ (fun w h j v hj => by rw [h.cell]; exact case_ctx va vc at_ C j v hj) Try.underlying37 rfl (by kernel_rfl)) hS ?_
  refine wpAnyH_all (rs := [4, 5]) (by kernel_rfl) (by simp) ?_
  intro i hi
  obtain rfl | rfl : i = 4 ∨ i = 5 := by simpa using hi
  · have Q := Lib.hid (N0.out.newcel 37 #[.int .i64 0, .int .i64 0, .int .i64 0, .int .i64 0, .int .i64 0, .int .i64 0, .int .i64 0, .int .i64 0, .int .i64 0, .int .i64 0, .int .i64 0, .int .i64 0, .int .i64 0, .int .i64 0, .int .i64 0, .int .i64 0, .int .i64 0, .int .i64 0])
    refine wpOp_run (v := .pointer (some ⟨w3.drew.heap.size, 0, none⟩)) (w' := w3.drew.alloc (.cells #[.int .i64 0, .int .i64 0, .int .i64 0, .int .i64 0, .int .i64 0, .int .i64 0, .int .i64 0, .int .i64 0, .int .i64 0, .int .i64 0, .int .i64 0, .int .i64 0, .int .i64 0, .int .i64 0, .int .i64 0, .int .i64 0, .int .i64 0, .int .i64 0] 37)) rfl rfl (by kernel_rfl) ?_
    obtain ⟨V1, hX⟩ : ∃ V1, w3.drew.alloc (.cells #[.int .i64 0, .int .i64 0, .int .i64 0, .int .i64 0, .int .i64 0, .int .i64 0, .int .i64 0, .int .i64 0, .int .i64 0, .int .i64 0, .int .i64 0, .int .i64 0, .int .i64 0, .int .i64 0, .int .i64 0, .int .i64 0, .int .i64 0, .int .i64 0] 37) = V1 := ⟨_, rfl⟩
    have Q1 := Q
    rw [hX] at Q1 ⊢
    clear hX Q hS N0
    generalize w3.drew.heap.size = b9 at Q1 ⊢
    have hS : (fun X => Blk X B 46 (caseA va vc at_ C)) V1 := Q1.out.getc B
    refine ⟨hS, ?_⟩
    refine wpAnyH_all (rs := [5]) (by kernel_rfl) (by simp) ?_
    intro i hi
    obtain rfl : i = 5 := by simpa using hi
    have Q := Lib.hid (Q1.out.newcel 37 #[.int .i64 0, .int .i64 0, .int .i64 0, .int .i64 0, .int .i64 0, .int .i64 0, .int .i64 0, .int .i64 0, .int .i64 0, .int .i64 0, .int .i64 0, .int .i64 0, .int .i64 0, .int .i64 0, .int .i64 0, .int .i64 0, .int .i64 0, .int .i64 0])
    refine wpOp_run (v := .pointer (some ⟨V1.heap.size, 0, none⟩)) (w' := V1.alloc (.cells #[.int .i64 0, .int .i64 0, .int .i64 0, .int .i64 0, .int .i64 0, .int .i64 0, .int .i64 0, .int .i64 0, .int .i64 0, .int .i64 0, .int .i64 0, .int .i64 0, .int .i64 0, .int .i64 0, .int .i64 0, .int .i64 0, .int .i64 0, .int .i64 0] 37)) rfl rfl (by kernel_rfl) ?_
    obtain ⟨V2, hX⟩ : ∃ V2, V1.alloc (.cells #[.int .i64 0, .int .i64 0, .int .i64 0, .int .i64 0, .int .i64 0, .int .i64 0, .int .i64 0, .int .i64 0, .int .i64 0, .int .i64 0, .int .i64 0, .int .i64 0, .int .i64 0, .int .i64 0, .int .i64 0, .int .i64 0, .int .i64 0, .int .i64 0] 37) = V2 := ⟨_, rfl⟩
    have Q2 := Q
    rw [hX] at Q2 ⊢
    clear hX Q hS Q1
    generalize V1.heap.size = b10 at Q2 ⊢
    have hS : (fun X => Blk X B 46 (caseA va vc at_ C)) V2 := Q2.out.getc B
    refine ⟨hS, ?_⟩
    have K1 := Lib.hid (Q2.out.rowc b9 C.arr)
    have K2 := Lib.hid (K1.out.rowc b10 C.arr)
    refine wpAnyH_all (rs := [6]) (by kernel_rfl) (by simp) ?_
    intro i hi
    obtain rfl : i = 6 := by simpa using hi
    refine wpOp_store_row rfl rfl 37 _ _ rfl b9 C.arr (by kernel_rfl) (by kernel_rfl) 37 #[.int .i64 0, .int .i64 0, .int .i64 0, .int .i64 0, .int .i64 0, .int .i64 0, .int .i64 0, .int .i64 0, .int .i64 0, .int .i64 0, .int .i64 0, .int .i64 0, .int .i64 0, .int .i64 0, .int .i64 0, .int .i64 0, .int .i64 0, .int .i64 0] (Q2.out.getc b9) (by kernel_rfl) rfl (by kernel_rfl) ?_
    refine ⟨K1.out.getc B, ?_⟩
    refine wpAnyH_all (rs := [7]) (by kernel_rfl) (by simp) ?_
    intro i hi
    obtain rfl : i = 7 := by simpa using hi
    refine wpOp_store_row rfl rfl 37 _ _ rfl b10 C.arr (by kernel_rfl) (by kernel_rfl) 37 #[.int .i64 0, .int .i64 0, .int .i64 0, .int .i64 0, .int .i64 0, .int .i64 0, .int .i64 0, .int .i64 0, .int .i64 0, .int .i64 0, .int .i64 0, .int .i64 0, .int .i64 0, .int .i64 0, .int .i64 0, .int .i64 0, .int .i64 0, .int .i64 0] (K1.out.getc b10) (by kernel_rfl) rfl (by kernel_rfl) ?_
    refine ⟨K2.out.getc B, ?_⟩
    refine wpAnyH_done (by kernel_rfl) ?_ _
    refine NoPanic.normal ?_
    clear hS Q2 K1
    obtain ⟨W9, hW9⟩ : ∃ W9, (V2.setRow b9 C.arr).setRow b10 C.arr = W9 := ⟨_, rfl⟩
    have M9a := K2
    rw [hW9] at M9a ⊢
    clear hW9 K2
    have M9 := Lib.hid (M9a.out.norm (Star (Cel b10 37 C.arr) (Star (Cel b9 37 C.arr) (Star (Sp a L) (Star (Rf c L) Emp)))))
    clear M9a
    go_wp2_with fail
    go_loopw [11] (fun i wr => ∃ k D L, Hid (StI B w a c b9 b10 (caseA va vc at_ C) p i wr k D L)) (fun i _ => 40 - (intOf i).toNat)
    case atStart => exact ⟨0, C, L, Lib.hid ⟨Nat.zero_le _, rfl, M9.out, HC.out⟩⟩
    case round =>
      obtain ⟨k, D, L, hI⟩ := hrel
      obtain ⟨hk, rfl, hown, hok⟩ := hI.out
      have M10 := Lib.hid hown
      have HOK := Lib.hid hok
      clear hI hown hok M9
      by_cases hkp : k < p
      · have hlt : (k : Int) < p := by omega
        have e1 : (wr.alloc (.cells #[.int .i64 0, .int .i64 0, .int .i64 0, .int .i64 0, .int .i64 0] 40)).heap.size = wr.heap.size + 1 := by simp
        have M11 := Lib.hid ((M10.out.newcel 40 #[.int .i64 0, .int .i64 0, .int .i64 0, .int .i64 0, .int .i64 0]).newcel 40 #[.int .i64 0, .int .i64 0, .int .i64 0, .int .i64 0, .int .i64 0])
        rw [e1] at M11
        go_upto_region 10 with (fail)
        obtain ⟨W11, hW⟩ : ∃ W11, (wr.alloc (.cells #[.int .i64 0, .int .i64 0, .int .i64 0, .int .i64 0, .int .i64 0] 40)).alloc (.cells #[.int .i64 0, .int .i64 0, .int .i64 0, .int .i64 0, .int .i64 0] 40) = W11 := ⟨_, rfl⟩
        have M12 := M11
        rw [hW] at M12 ⊢
        clear hW e1 M11 M10
        generalize wr.heap.size + 1 = e13 at M12 ⊢
        generalize wr.heap.size = e12 at M12 ⊢
        obtain ⟨⟨D2, E2, L2⟩, hQ⟩ : ∃ Q, stepS D L = Q := ⟨_, rfl⟩
        have HOK2 := Lib.hid (stepS_ok HOK.out (M12.out.pick (Sp a L)).ok).1
        have S1 := Lib.hid (step_any (M12.out.pick (Sp a L)) HOK.out)
        rw [hQ] at S1 HOK2
        simp only [Ctx.val_arr, Evt.val_arr] at S1 HOK2
        go_wp2_with (first | (refine wpList_load_rowW rfl 37 _ rfl b9 rfl D.arr _ (M12.out.getc b9) Try.underlying37 rfl (by kernel_rfl) ?_))
        refine (S1.out).mono ?_
        rintro e w5 ⟨rfl, m⟩
        have P1 := Lib.hid (m.rowc b9 D2.arr)
        have P2 := Lib.hid (P1.out.rowc e12 E2.arr)
        go_upto_region 11 with (first | (refine wpList_store_row rfl 37 _ _ rfl b9 D2.arr rfl rfl 37 D.arr (m.getc b9) (by kernel_rfl) rfl (by kernel_rfl) ?_) | (refine wpList_store_row rfl 40 _ _ rfl e12 E2.arr rfl rfl 40 #[.int .i64 0, .int .i64 0, .int .i64 0, .int .i64 0, .int .i64 0] (P1.out.getc e12) (by kernel_rfl) rfl (by kernel_rfl) ?_))
        obtain ⟨W5, hW⟩ : ∃ W5, (w5.setRow b9 D2.arr).setRow e12 E2.arr = W5 := ⟨_, rfl⟩
        have M13 := P2
        rw [hW] at M13 ⊢
        clear hW P1 P2 m S1 M12
        have S2 := Lib.hid (rstep_any (M13.out.pick (Rf c L)) D HOK.out)
        rw [hQ] at S2
        clear hQ
        unfold StepE at S2
        simp only at S2
        go_wp2_with (first | (refine wpList_load_rowW rfl 37 _ rfl b10 rfl D.arr _ (M13.out.getc b10) Try.underlying37 rfl (by kernel_rfl) ?_))
        refine (S2.out).mono ?_
        rintro e w6 ⟨rfl, m⟩
        have P1 := Lib.hid (m.rowc b10 D2.arr)
        have P2 := Lib.hid (P1.out.rowc e13 E2.arr)
        go_upto_region 12 with (first | (refine wpList_store_row rfl 37 _ _ rfl b10 D2.arr rfl rfl 37 D.arr (m.getc b10) (by kernel_rfl) rfl (by kernel_rfl) ?_) | (refine wpList_store_row rfl 40 _ _ rfl e13 E2.arr rfl rfl 40 #[.int .i64 0, .int .i64 0, .int .i64 0, .int .i64 0, .int .i64 0] (P1.out.getc e13) (by kernel_rfl) rfl (by kernel_rfl) ?_))
        obtain ⟨W6, hW⟩ : ∃ W6, (w6.setRow b10 D2.arr).setRow e13 E2.arr = W6 := ⟨_, rfl⟩
        have M14 := P2
        rw [hW] at M14 ⊢
        clear hW P1 P2 m S2 M13
        have M15 := Lib.hid (M14.out.norm (Star (Cel b10 37 D2.arr) (Star (Cel b9 37 D2.arr) (Star (Sp a L2) (Star (Rf c L2) Emp)))))
        go_wp2_with (first | (refine wpList_load_rowW rfl 37 _ rfl b9 rfl D2.arr _ (M14.out.getc b9) Try.underlying37 rfl (by kernel_rfl) ?_) | (refine wpList_load_rowW rfl 37 _ rfl b10 rfl D2.arr _ (M14.out.getc b10) Try.underlying37 rfl (by kernel_rfl) ?_) | (refine wpList_neq_self rfl 37 _ _ _ rfl D2.arr rfl rfl (by kernel_rfl) (eql_ctx D2) ?_) | (refine wpList_load_rowW rfl 40 _ rfl e12 rfl E2.arr _ (M14.out.getc e12) Try.underlying40 rfl (by kernel_rfl) ?_) | (refine wpList_load_rowW rfl 40 _ rfl e13 rfl E2.arr _ (M14.out.getc e13) Try.underlying40 rfl (by kernel_rfl) ?_) | (refine wpList_neq_self rfl 40 _ _ _ rfl E2.arr rfl rfl (by kernel_rfl) (eql_evt E2) ?_))
        clear M14
        go_roundw
        case rel => exact ⟨k + 1, D2, L2, Lib.hid ⟨hkp, by rfl, M15.out, HOK2.out⟩⟩
        case measure =>
          have hi : intOf (Value.int .i64 ((k : Int) + 1)) = (k : Int) + 1 := rfl
          have hj : intOf (Value.int .i64 (k : Int)) = (k : Int) := rfl
          omega
      · have hge : ¬ (k : Int) < p := by omega
        have A1 := Lib.hid (alike06 ((M10.out.pick (Rf c L)).pick (Sp a L)))
        go_wp2_with fail
        refine (A1.out).mono ?_
        rintro e wz ⟨rfl, mz⟩
        have MZ := Lib.hid mz.bel
        clear mz A1 M10
        go_wp2
        go_ret
        exact ⟨rfl, by rw [HBQ.out]; exact MZ.out⟩
  · have Q := Lib.hid (N0.out.newcel 37 #[.int .i64 0, .int .i64 0, .int .i64 0, .int .i64 0, .int .i64 0, .int .i64 0, .int .i64 0, .int .i64 0, .int .i64 0, .int .i64 0, .int .i64 0, .int .i64 0, .int .i64 0, .int .i64 0, .int .i64 0, .int .i64 0, .int .i64 0, .int .i64 0])
    refine wpOp_run (v := .pointer (some ⟨w3.drew.heap.size, 0, none⟩)) (w' := w3.drew.alloc (.cells #[.int .i64 0, .int .i64 0, .int .i64 0, .int .i64 0, .int .i64 0, .int .i64 0, .int .i64 0, .int .i64 0, .int .i64 0, .int .i64 0, .int .i64 0, .int .i64 0, .int .i64 0, .int .i64 0, .int .i64 0, .int .i64 0, .int .i64 0, .int .i64 0] 37)) rfl rfl (by kernel_rfl) ?_
    obtain ⟨V1, hX⟩ : ∃ V1, w3.drew.alloc (.cells #[.int .i64 0, .int .i64 0, .int .i64 0, .int .i64 0, .int .i64 0, .int .i64 0, .int .i64 0, .int .i64 0, .int .i64 0, .int .i64 0, .int .i64 0, .int .i64 0, .int .i64 0, .int .i64 0, .int .i64 0, .int .i64 0, .int .i64 0, .int .i64 0] 37) = V1 := ⟨_, rfl⟩
    have Q1 := Q
    rw [hX] at Q1 ⊢
    clear hX Q hS N0
    generalize w3.drew.heap.size = b10 at Q1 ⊢
    have hS : (fun X => Blk X B 46 (caseA va vc at_ C)) V1 := Q1.out.getc B
    refine ⟨hS, ?_⟩
    refine wpAnyH_all (rs := [4]) (by kernel_rfl) (by simp) ?_
    intro i hi
    obtain rfl : i = 4 := by simpa using hi
    have Q := Lib.hid (Q1.out.newcel 37 #[.int .i64 0, .int .i64 0, .int .i64 0, .int .i64 0, .int .i64 0, .int .i64 0, .int .i64 0, .int .i64 0, .int .i64 0, .int .i64 0, .int .i64 0, .int .i64 0, .int .i64 0, .int .i64 0, .int .i64 0, .int .i64 0, .int .i64 0, .int .i64 0])
    refine wpOp_run (v := .pointer (some ⟨V1.heap.size, 0, none⟩)) (w' := V1.alloc (.cells #[.int .i64 0, .int .i64 0, .int .i64 0, .int .i64 0, .int .i64 0, .int .i64 0, .int .i64 0, .int .i64 0, .int .i64 0, .int .i64 0, .int .i64 0, .int .i64 0, .int .i64 0, .int .i64 0, .int .i64 0, .int .i64 0, .int .i64 0, .int .i64 0] 37)) rfl rfl (by kernel_rfl) ?_
    obtain ⟨V2, hX⟩ : ∃ V2, V1.alloc (.cells #[.int .i64 0, .int .i64 0, .int .i64 0, .int .i64 0, .int .i64 0, .int .i64 0, .int .i64 0, .int .i64 0, .int .i64 0, .int .i64 0, .int .i64 0, .int .i64 0, .int .i64 0, .int .i64 0, .int .i64 0, .int .i64 0, .int .i64 0, .int .i64 0] 37) = V2 := ⟨_, rfl⟩
    have Q2 := Q
    rw [hX] at Q2 ⊢
    clear hX Q hS Q1
    generalize V1.heap.size = b9 at Q2 ⊢
    have hS : (fun X => Blk X B 46 (caseA va vc at_ C)) V2 := Q2.out.getc B
    refine ⟨hS, ?_⟩
    have K1 := Lib.hid (Q2.out.rowc b9 C.arr)
    have K2 := Lib.hid (K1.out.rowc b10 C.arr)
    refine wpAnyH_all (rs := [6]) (by kernel_rfl) (by simp) ?_
    intro i hi
    obtain rfl : i = 6 := by simpa using hi
    refine wpOp_store_row rfl rfl 37 _ _ rfl b9 C.arr (by kernel_rfl) (by kernel_rfl) 37 #[.int .i64 0, .int .i64 0, .int .i64 0, .int .i64 0, .int .i64 0, .int .i64 0, .int .i64 0, .int .i64 0, .int .i64 0, .int .i64 0, .int .i64 0, .int .i64 0, .int .i64 0, .int .i64 0, .int .i64 0, .int .i64 0, .int .i64 0, .int .i64 0] (Q2.out.getc b9) (by kernel_rfl) rfl (by kernel_rfl) ?_
    refine ⟨K1.out.getc B, ?_⟩
    refine wpAnyH_all (rs := [7]) (by kernel_rfl) (by simp) ?_
    intro i hi
    obtain rfl : i = 7 := by simpa using hi
    refine wpOp_store_row rfl rfl 37 _ _ rfl b10 C.arr (by kernel_rfl) (by kernel_rfl) 37 #[.int .i64 0, .int .i64 0, .int .i64 0, .int .i64 0, .int .i64 0, .int .i64 0, .int .i64 0, .int .i64 0, .int .i64 0, .int .i64 0, .int .i64 0, .int .i64 0, .int .i64 0, .int .i64 0, .int .i64 0, .int .i64 0, .int .i64 0, .int .i64 0] (K1.out.getc b10) (by kernel_rfl) rfl (by kernel_rfl) ?_
    refine ⟨K2.out.getc B, ?_⟩
    refine wpAnyH_done (by kernel_rfl) ?_ _
    refine NoPanic.normal ?_
    clear hS Q2 K1
    obtain ⟨W9, hW9⟩ : ∃ W9, (V2.setRow b9 C.arr).setRow b10 C.arr = W9 := ⟨_, rfl⟩
    have M9a := K2
    rw [hW9] at M9a ⊢
    clear hW9 K2
    have M9 := Lib.hid (M9a.out.norm (Star (Cel b10 37 C.arr) (Star (Cel b9 37 C.arr) (Star (Sp a L) (Star (Rf c L) Emp)))))
    clear M9a
    go_wp2_with fail
    go_loopw [11] (fun i wr => ∃ k D L, Hid (StI B w a c b9 b10 (caseA va vc at_ C) p i wr k D L)) (fun i _ => 40 - (intOf i).toNat)
    case atStart => exact ⟨0, C, L, Lib.hid ⟨Nat.zero_le _, rfl, M9.out, HC.out⟩⟩
    case round =>
      obtain ⟨k, D, L, hI⟩ := hrel
      obtain ⟨hk, rfl, hown, hok⟩ := hI.out
      have M10 := Lib.hid hown
      have HOK := Lib.hid hok
      clear hI hown hok M9
      by_cases hkp : k < p
      · have hlt : (k : Int) < p := by omega
        have e1 : (wr.alloc (.cells #[.int .i64 0, .int .i64 0, .int .i64 0, .int .i64 0, .int .i64 0] 40)).heap.size = wr.heap.size + 1 := by simp
        have M11 := Lib.hid ((M10.out.newcel 40 #[.int .i64 0, .int .i64 0, .int .i64 0, .int .i64 0, .int .i64 0]).newcel 40 #[.int .i64 0, .int .i64 0, .int .i64 0, .int .i64 0, .int .i64 0])
        rw [e1] at M11
        go_upto_region 10 with (fail)
        obtain ⟨W11, hW⟩ : ∃ W11, (wr.alloc (.cells #[.int .i64 0, .int .i64 0, .int .i64 0, .int .i64 0, .int .i64 0] 40)).alloc (.cells #[.int .i64 0, .int .i64 0, .int .i64 0, .int .i64 0, .int .i64 0] 40) = W11 := ⟨_, rfl⟩
        have M12 := M11
        rw [hW] at M12 ⊢
        clear hW e1 M11 M10
        generalize wr.heap.size + 1 = e13 at M12 ⊢
        generalize wr.heap.size = e12 at M12 ⊢
        obtain ⟨⟨D2, E2, L2⟩, hQ⟩ : ∃ Q, stepS D L = Q := ⟨_, rfl⟩
        have HOK2 := Lib.hid (stepS_ok HOK.out (M12.out.pick (Sp a L)).ok).1
        have S1 := Lib.hid (step_any (M12.out.pick (Sp a L)) HOK.out)
        rw [hQ] at S1 HOK2
        simp only [Ctx.val_arr, Evt.val_arr] at S1 HOK2
        go_wp2_with (first | (refine wpList_load_rowW rfl 37 _ rfl b9 rfl D.arr _ (M12.out.getc b9) Try.underlying37 rfl (by kernel_rfl) ?_))
        refine (S1.out).mono ?_
        rintro e w5 ⟨rfl, m⟩
        have P1 := Lib.hid (m.rowc b9 D2.arr)
        have P2 := Lib.hid (P1.out.rowc e12 E2.arr)
        go_upto_region 11 with (first | (refine wpList_store_row rfl 37 _ _ rfl b9 D2.arr rfl rfl 37 D.arr (m.getc b9) (by kernel_rfl) rfl (by kernel_rfl) ?_) | (refine wpList_store_row rfl 40 _ _ rfl e12 E2.arr rfl rfl 40 #[.int .i64 0, .int .i64 0, .int .i64 0, .int .i64 0, .int .i64 0] (P1.out.getc e12) (by kernel_rfl) rfl (by kernel_rfl) ?_))
        obtain ⟨W5, hW⟩ : ∃ W5, (w5.setRow b9 D2.arr).setRow e12 E2.arr = W5 := ⟨_, rfl⟩
        have M13 := P2
        rw [hW] at M13 ⊢
        clear hW P1 P2 m S1 M12
        have S2 := Lib.hid (rstep_any (M13.out.pick (Rf c L)) D HOK.out)
        rw [hQ] at S2
        clear hQ
        unfold StepE at S2
        simp only at S2
        go_wp2_with (first | (refine wpList_load_rowW rfl 37 _ rfl b10 rfl D.arr _ (M13.out.getc b10) Try.underlying37 rfl (by kernel_rfl) ?_))
        refine (S2.out).mono ?_
        rintro e w6 ⟨rfl, m⟩
        have P1 := Lib.hid (m.rowc b10 D2.arr)
        have P2 := Lib.hid (P1.out.rowc e13 E2.arr)
        go_upto_region 12 with (first | (refine wpList_store_row rfl 37 _ _ rfl b10 D2.arr rfl rfl 37 D.arr (m.getc b10) (by kernel_rfl) rfl (by kernel_rfl) ?_) | (refine wpList_store_row rfl 40 _ _ rfl e13 E2.arr rfl rfl 40 #[.int .i64 0, .int .i64 0, .int .i64 0, .int .i64 0, .int .i64 0] (P1.out.getc e13) (by kernel_rfl) rfl (by kernel_rfl) ?_))
        obtain ⟨W6, hW⟩ : ∃ W6, (w6.setRow b10 D2.arr).setRow e13 E2.arr = W6 := ⟨_, rfl⟩
        have M14 := P2
        rw [hW] at M14 ⊢
        clear hW P1 P2 m S2 M13
        have M15 := Lib.hid (M14.out.norm (Star (Cel b10 37 D2.arr) (Star (Cel b9 37 D2.arr) (Star (Sp a L2) (Star (Rf c L2) Emp)))))
        go_wp2_with (first | (refine wpList_load_rowW rfl 37 _ rfl b9 rfl D2.arr _ (M14.out.getc b9) Try.underlying37 rfl (by kernel_rfl) ?_) | (refine wpList_load_rowW rfl 37 _ rfl b10 rfl D2.arr _ (M14.out.getc b10) Try.underlying37 rfl (by kernel_rfl) ?_) | (refine wpList_neq_self rfl 37 _ _ _ rfl D2.arr rfl rfl (by kernel_rfl) (eql_ctx D2) ?_) | (refine wpList_load_rowW rfl 40 _ rfl e12 rfl E2.arr _ (M14.out.getc e12) Try.underlying40 rfl (by kernel_rfl) ?_) | (refine wpList_load_rowW rfl 40 _ rfl e13 rfl E2.arr _ (M14.out.getc e13) Try.underlying40 rfl (by kernel_rfl) ?_) | (refine wpList_neq_self rfl 40 _ _ _ rfl E2.arr rfl rfl (by kernel_rfl) (eql_evt E2) ?_))
        clear M14
        go_roundw
        case rel => exact ⟨k + 1, D2, L2, Lib.hid ⟨hkp, by rfl, M15.out, HOK2.out⟩⟩
        case measure =>
          have hi : intOf (Value.int .i64 ((k : Int) + 1)) = (k : Int) + 1 := rfl
          have hj : intOf (Value.int .i64 (k : Int)) = (k : Int) := rfl
          omega
      · have hge : ¬ (k : Int) < p := by omega
        have A1 := Lib.hid (alike06 ((M10.out.pick (Rf c L)).pick (Sp a L)))
        go_wp2_with fail
        refine (A1.out).mono ?_
        rintro e wz ⟨rfl, mz⟩
        have MZ := Lib.hid mz.bel
        clear mz A1 M10
        go_wp2
        go_ret
        exact ⟨rfl, by rw [HBQ.out]; exact MZ.out⟩

end Go.Proofs.Ytkpaeogjefjbfaa
