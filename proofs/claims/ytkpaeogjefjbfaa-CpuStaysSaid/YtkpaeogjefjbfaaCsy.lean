/-
  Layer 6: the walk of CpuStays.
  Conditions: none. (My own text.)
-/
import Derived.Test.YtkpaeogjefjbfaaCop
import Derived.Test.YtkpaeogjefjbfaaCaw
import Derived.Test.YtkpaeogjefjbfaaCps
namespace Go.Proofs.Ytkpaeogjefjbfaa
open Go.RowKit Spm
set_option linter.unusedVariables false
set_option linter.unusedSimpArgs false

def insA (j : Ins) : Array Value := #[.int .i64 j.op, .int .i64 j.a, .int .i64 j.b, .int .i64 j.c, .int .i64 j.n]
theorem Ins.val_arr (j : Ins) : j.val = .agg (insA j) := rfl

set_option maxRecDepth 100000 in
set_option maxHeartbeats 8000000 in
theorem stays_walk (va vc : Value) (l : List ActM) (is : List Ins) (at_ : Int) (C : Ctx) (j : Ins) (w : World) (hv : ActsV w w.heap.size va l) (hi : RowsAt 5 Ins.cells w (fun k => k < w.heap.size) vc is) (hat : I64 at_) (hC : CtxOk C) : Calls Try.prog 8 #[.agg (caseA va vc at_ C), .agg (insA j)] w fun e w' => e = .returned (.bool true) ∧ Below w.heap.size w w' := by
  have HB := Lib.hid (((Has.start (Below.refl w.heap.size w) (Nat.le_refl _)).newcel 46 #[va, vc, .int .i64 at_, .int .i64 C.pc, .int .i64 C.tp, .int .i64 (C.r 0), .int .i64 (C.r 1), .int .i64 (C.r 2), .int .i64 (C.r 3), .int .i64 (C.r 4), .int .i64 (C.r 5), .int .i64 (C.r 6), .int .i64 (C.r 7), .int .i64 (C.r 8), .int .i64 (C.r 9), .int .i64 (C.r 10), .int .i64 (C.r 11), .int .i64 (C.r 12), .int .i64 (C.r 13), .int .i64 (C.r 14), .int .i64 (C.r 15)]).newcel 30 #[.int .i64 j.op, .int .i64 j.a, .int .i64 j.b, .int .i64 j.c, .int .i64 j.n])
  have HV := Lib.hid hv
  have HI := Lib.hid hi
  have HAT := Lib.hid hat
  have HC := Lib.hid hC
  clear hv hi hat hC
  unfold caseA insA
  go_enter Try.func8, Try.ntmps8
  go_wp2_with fail
  have es : (w.alloc (.cells #[va, vc, .int .i64 at_, .int .i64 C.pc, .int .i64 C.tp, .int .i64 (C.r 0), .int .i64 (C.r 1), .int .i64 (C.r 2), .int .i64 (C.r 3), .int .i64 (C.r 4), .int .i64 (C.r 5), .int .i64 (C.r 6), .int .i64 (C.r 7), .int .i64 (C.r 8), .int .i64 (C.r 9), .int .i64 (C.r 10), .int .i64 (C.r 11), .int .i64 (C.r 12), .int .i64 (C.r 13), .int .i64 (C.r 14), .int .i64 (C.r 15)] 46)).heap.size = w.heap.size + 1 := by simp
  rw [es] at HB
  obtain ⟨w1, hw1⟩ : ∃ w1, (w.alloc (.cells #[va, vc, .int .i64 at_, .int .i64 C.pc, .int .i64 C.tp, .int .i64 (C.r 0), .int .i64 (C.r 1), .int .i64 (C.r 2), .int .i64 (C.r 3), .int .i64 (C.r 4), .int .i64 (C.r 5), .int .i64 (C.r 6), .int .i64 (C.r 7), .int .i64 (C.r 8), .int .i64 (C.r 9), .int .i64 (C.r 10), .int .i64 (C.r 11), .int .i64 (C.r 12), .int .i64 (C.r 13), .int .i64 (C.r 14), .int .i64 (C.r 15)] 46)).alloc (.cells #[.int .i64 j.op, .int .i64 j.a, .int .i64 j.b, .int .i64 j.c, .int .i64 j.n] 30) = w1 := ⟨_, rfl⟩
  rw [hw1] at HB ⊢
  clear hw1 es
  generalize w.heap.size + 1 = BI at HB ⊢
  generalize hBq : w.heap.size = B at HB HV HI ⊢
  have HBQ := Lib.hid hBq
  clear hBq
  have HB1 : Hid (Has B w w1 (Star (Cel BI 30 (insA j)) (Star (Cel B 46 (caseA va vc at_ C)) Emp))) := HB
  clear HB
  refine (awake06 w1).mono ?_
  rintro e w2 ⟨rfl, hb, hl⟩
  have M2 := Lib.hid (HB1.out.stay hb)
  clear hb hl HB1
  go_wp2_with (first | (refine wpList_load_rowW rfl 46 _ rfl B rfl (caseA va vc at_ C) _ M2.out.swap.cel Try.underlying46 rfl (by kernel_rfl) ?_))
  refine (both_at M2.out HV.out HI.out HAT.out C).mono ?_
  rintro e w3 ⟨a, c, rfl, m3⟩
  obtain ⟨L, hLq⟩ : ∃ L, (codeS (playS [] (l.map (·.x))) at_ is).1 = L := ⟨_, rfl⟩
  rw [hLq] at m3
  have M3 := Lib.hid m3
  clear m3 M2 hLq
  obtain ⟨q, hq⟩ : ∃ q, mapAtS L 1048576 64 7 = q := ⟨_, rfl⟩
  have HQ := Lib.hid hq
  have HOK := Lib.hid M3.out.ok
  obtain ⟨L2, E2⟩ := q
  have C1 := Lib.hid (own_mapAt M3.out 1048576 64 7)
  rw [hq] at C1
  simp only at C1
  clear hq
  go_wp2_with fail
  refine (C1.out).mono ?_
  rintro e w4 ⟨rfl, m4⟩
  have M4 := Lib.hid m4
  clear m4 C1 M3
  by_cases hE : E2 = 0
  · subst hE
    have C2 := Lib.hid (own_rmapAt M4.out.swap 1048576 64 7 ⟨by decide, by decide⟩)
    rw [HQ.out] at C2
    simp only at C2
    go_wp2_with fail
    refine (C2.out).mono ?_
    rintro e w5 ⟨rfl, m5⟩
    have M5 := Lib.hid m5.swap
    clear m5 C2 M4
    have C3 := Lib.hid (rmay_any j w5)
    rw [Ins.val_arr] at C3
    go_wp2_with (first | (refine wpList_load_rowW rfl 30 _ rfl BI rfl (insA j) _ M5.out.r3.cel Try.underlying30 rfl (by kernel_rfl) ?_))
    refine (C3.out).mono ?_
    rintro e w6 ⟨rfl, hb6⟩
    have M6 := Lib.hid (M5.out.stay hb6)
    clear hb6 C3 M5
    by_cases hmay : mayS j = true
    · have HMAY := Lib.hid hmay
      have C4 := Lib.hid (bytes_any j hmay w6)
      rw [Ins.val_arr] at C4
      rw [hmay]
      clear hmay
      go_wp2_with (first | (refine wpList_load_rowW rfl 30 _ rfl BI rfl (insA j) _ M6.out.r3.cel Try.underlying30 rfl (by kernel_rfl) ?_))
      refine (C4.out).mono ?_
      rintro e w7 ⟨v, rfl, hbv, hb7⟩
      obtain ⟨A7, c7, rfl, hc71, hc72, _⟩ := hbv.src'
      have M7 := Lib.hid (M6.out.bytes hbv hb7)
      clear hbv hb7 C4 M6
      have hsr : SrcB w7 A7 (encS j) := by
        obtain ⟨A', c', e', _, _, hs⟩ := M7.out.bt.src'
        simp only [Value.slice.injEq, true_and] at e'
        obtain ⟨rfl, rfl⟩ := e'
        exact hs
      have C5 := Lib.hid (own_poke M7.out.swap 1048576 (by omega) A7 c7 (encS j) (show 8 ≤ 9223372036854775807 by omega) hsr)
      clear hsr
      have HL8 : (encS j).length = 8 := rfl
      obtain ⟨hs0, hfe⟩ := poke_fetch HOK.out (x := 1048576) (by rw [HQ.out]) HL8
      rw [HQ.out] at hs0 hfe
      simp only at hs0 hfe
      rw [HL8] at C5 hc71 ⊢
      go_wp2_with fail
      refine (C5.out).mono ?_
      rintro e w8 ⟨rfl, m8⟩
      have M8 := Lib.hid m8.swap
      clear m8 C5 M7
      have C6 := Lib.hid (own_rset (h := M8.out.r3) 1048576 ⟨by decide, by decide⟩ A7 c7 (encS j) (show 8 ≤ 9223372036854775807 by omega) 0 (.inl rfl) AwayB.of_bt)
      rw [HL8] at C6
      go_wp2_with fail
      refine (C6.out).mono ?_
      rintro e w9 ⟨rfl, m9⟩
      obtain ⟨L3, hL3⟩ : ∃ L3, (setS L2 1048576 (encS j) 0).1 = L3 := ⟨_, rfl⟩
      rw [hL3] at m9 hfe
      have M9 := Lib.hid m9.r3.r5
      clear m9 C6 M8 hL3 hs0
      obtain ⟨C0, hC0⟩ : ∃ C0 : Ctx, C0 = { C with pc := 1048576 } := ⟨_, rfl⟩
      have HC0 : Hid (CtxOk C0) := Lib.hid (by rw [hC0]; exact HC.out.pcs ⟨by decide, by decide⟩)
      have hz : C0.pc = 1048576 := by rw [hC0]
      have hST := step_at (cx := C0) (L := L3) (i := j) (by rw [hz]; decide) (by rw [hz]; exact hfe) HMAY.out
      have HST := Lib.hid hST
      clear hST hfe hz
      have M10 := Lib.hid (M9.out.store 3 (.int .i64 1048576))
      rw [case_pc, ← hC0] at M10
      clear hC0
      have f3 := M9.out.cel.free 3
      have c3 : w9.cell? ⟨B, 3, none⟩ = some (.int .i64 C.pc) := by rw [M9.out.cel.cell]; rfl
      have S1 := Lib.hid (step_any M10.out.swap HC0.out)
      generalize stepS C0 L3 = R at S1 HST
      obtain ⟨D, E, L4⟩ := R
      simp only [Ctx.val_arr, Evt.val_arr] at S1
      go_wp2_with (first | (refine wpList_load_part rfl 37 _ rfl B 3 rfl C0.arr _ (fun j v h => by rw [M10.out.cel.cell]; exact case_ctx va vc at_ C0 j v h) Try.underlying37 rfl (by kernel_rfl) ?_))
      refine (S1.out).mono ?_
      rintro e w11 ⟨rfl, m⟩
      have es : (w11.alloc (.cells #[.int .i64 0, .int .i64 0, .int .i64 0, .int .i64 0, .int .i64 0, .int .i64 0, .int .i64 0, .int .i64 0, .int .i64 0, .int .i64 0, .int .i64 0, .int .i64 0, .int .i64 0, .int .i64 0, .int .i64 0, .int .i64 0, .int .i64 0, .int .i64 0] 37)).heap.size = w11.heap.size + 1 := by simp
      have Na := Lib.hid ((m.newcel 37 #[.int .i64 0, .int .i64 0, .int .i64 0, .int .i64 0, .int .i64 0, .int .i64 0, .int .i64 0, .int .i64 0, .int .i64 0, .int .i64 0, .int .i64 0, .int .i64 0, .int .i64 0, .int .i64 0, .int .i64 0, .int .i64 0, .int .i64 0, .int .i64 0]).newcel 40 #[.int .i64 0, .int .i64 0, .int .i64 0, .int .i64 0, .int .i64 0])
      rw [es] at Na
      have Nb := Lib.hid (Na.out.swap.setrow D.arr).swap
      have Nc := Lib.hid (Nb.out.setrow E.arr)
      go_upto_region 10 with (first | (refine wpList_store_row rfl 37 _ _ rfl w11.heap.size D.arr rfl rfl 37 #[.int .i64 0, .int .i64 0, .int .i64 0, .int .i64 0, .int .i64 0, .int .i64 0, .int .i64 0, .int .i64 0, .int .i64 0, .int .i64 0, .int .i64 0, .int .i64 0, .int .i64 0, .int .i64 0, .int .i64 0, .int .i64 0, .int .i64 0, .int .i64 0] Na.out.swap.cel (by kernel_rfl) rfl (by kernel_rfl) ?_) | (refine wpList_store_row rfl 40 _ _ rfl (w11.heap.size + 1) E.arr rfl rfl 40 #[.int .i64 0, .int .i64 0, .int .i64 0, .int .i64 0, .int .i64 0] Nb.out.cel (by kernel_rfl) rfl (by kernel_rfl) ?_))
      obtain ⟨W5, hW⟩ : ∃ W5, (((w11.alloc (.cells #[.int .i64 0, .int .i64 0, .int .i64 0, .int .i64 0, .int .i64 0, .int .i64 0, .int .i64 0, .int .i64 0, .int .i64 0, .int .i64 0, .int .i64 0, .int .i64 0, .int .i64 0, .int .i64 0, .int .i64 0, .int .i64 0, .int .i64 0, .int .i64 0] 37)).alloc (.cells #[.int .i64 0, .int .i64 0, .int .i64 0, .int .i64 0, .int .i64 0] 40)).setRow w11.heap.size D.arr).setRow (w11.heap.size + 1) E.arr = W5 := ⟨_, rfl⟩
      have N5 := Nc
      rw [hW] at N5 ⊢
      clear hW es Na Nb Nc m S1
      generalize w11.heap.size + 1 = e5 at N5 ⊢
      generalize w11.heap.size = x5 at N5 ⊢
      clear f3 c3 M9 M10
      go_wp2_with fail
      obtain ⟨wo, hwo⟩ : ∃ wo : World, wo = W5 := ⟨_, rfl⟩
      rw [← hwo] at N5 ⊢
      clear hwo
      go_loopw [12, 13] (fun m i wr => ∃ k : Nat, k ≤ 15 ∧ i = .int .i64 k ∧ m = .int .i64 (cntS C0 D k : Nat) ∧ Hid (Has B w wr (Star (Cel e5 40 E.arr) (Star (Cel x5 37 D.arr) (Star (Sp a L4) (Star (Cel B 46 (caseA va vc at_ C0)) (Star (Rf c L3) (Star (Bt (.slice A7 8 c7) (encS j)) (Star (Cel BI 30 (insA j)) Emp))))))))) (fun _ i _ => 15 - (intOf i).toNat)
      case atStart => exact ⟨0, Nat.zero_le _, rfl, rfl, N5⟩
      case round =>
        obtain ⟨k, hk, rfl, rfl, hM⟩ := hrel
        by_cases hlt : k < 15
        · have d0 : wr.cell? ⟨x5, 2 + k, none⟩ = some (.int .i64 (D.r k)) := by rw [hM.out.swap.cel.cell]; exact ctx_reg D (by omega)
          have d1 : wr.cell? ⟨B, 5 + k, none⟩ = some (.int .i64 (C0.r k)) := by
            rw [hM.out.r4.cel.cell]
            have := case_ctx va vc at_ C0 (2 + k) (.int .i64 (C0.r k)) (by have := ctx_reg C0 (a := k) (by omega); simpa using this)
            rwa [show 3 + (2 + k) = 5 + k by omega] at this
          have hcn := cnt_le C0 D k
          have i0 : (0 : Int) ≤ (k : Int) := by omega
          have i1 : (k : Int) < 16 := by omega
          obtain ⟨n, hn⟩ : ∃ n, cntS C0 D k = n := ⟨_, rfl⟩
          rw [hn] at hcn ⊢
          have hn0 : (0 : Int) ≤ (n : Int) := by omega
          have hn1 : (n : Int) ≤ 15 := by omega
          have HN := Lib.hid hn
          clear hn
          by_cases hq : D.r k = C0.r k
          · have hs : Hid (cntS C0 D (k + 1) = n) := Lib.hid (by show cntS C0 D k + _ = _; rw [if_pos hq, Nat.add_zero, HN.out])
            rw [hq] at d0
            clear hq
            go_wp2_with fail
            go_quiet (fail)
            have M2 := Lib.hid (hM.out.stay (below_drewN (Below.refl _ _) nq))
            clear hM
            go_wp2
            go_roundw
            case rel => exact ⟨k + 1, by omega, by go_num, by rw [hs.out], M2⟩
            case measure => simp [intOf]; omega
          · have hs : Hid (cntS C0 D (k + 1) = n + 1) := Lib.hid (by show cntS C0 D k + _ = _; rw [if_neg hq, HN.out])
            have e1 : (D.r k != C0.r k) = true := bne_iff_ne.2 hq
            clear hq
            go_wp2_with fail
            go_quiet (fail)
            have M2 := Lib.hid (hM.out.stay (below_drewN (Below.refl _ _) nq))
            clear hM
            go_wp2
            go_roundw
            case rel => exact ⟨k + 1, by omega, by go_num, by rw [hs.out]; go_num, M2⟩
            case measure => simp [intOf]; omega
        · obtain rfl : k = 15 := by omega
          obtain ⟨hrg, hk1, hk6⟩ := HST.out
          obtain ⟨wa, hwa⟩ := hrg.one
          have hle : cntS C0 D 15 ≤ 1 := cnt_most hwa
          have hsto0 : stoI j → cntS C0 D 15 = 0 := fun h => cnt_none (hrg.sto h) 15 (Nat.le_refl _)
          have htp : D.tp = C0.tp := hrg.tp
          have hmem : ¬ stoI j → L4 = L3 := hrg.mem
          obtain ⟨n, hn⟩ : ∃ n, cntS C0 D 15 = n := ⟨_, rfl⟩
          rw [hn] at hle hsto0 ⊢
          clear hn hwa hrg HST
          have hn1 : ¬ (1 : Int) < (n : Int) := by omega
          have b1 : (E.k == 1) = false := beq_eq_false_iff_ne.2 hk1
          have b6 : (E.k == 6) = false := beq_eq_false_iff_ne.2 hk6
          have p1 : wr.cell? ⟨x5, 1, none⟩ = some (.int .i64 C0.tp) := by rw [hM.out.swap.cel.cell, ← htp]; rfl
          have p4 : wr.cell? ⟨B, 4, none⟩ = some (.int .i64 C0.tp) := by rw [hM.out.r4.cel.cell]; rfl
          have p0 : wr.cell? ⟨e5, 0, none⟩ = some (.int .i64 E.k) := by rw [hM.out.cel.cell]; rfl
          have o0 : wr.cell? ⟨BI, 0, none⟩ = some (.int .i64 j.op) := by rw [hM.out.r7.cel.cell]; rfl
          have HTP := Lib.hid htp
          clear htp hk1 hk6
          by_cases hst : stoI j
          · obtain rfl : n = 0 := hsto0 hst
            have MZ := Lib.hid hM.out.bel
            clear hmem hsto0
            rcases hst with h | h | h
            all_goals
              rw [h] at o0
              clear h
              go_wp2
              go_ret
              exact ⟨rfl, by rw [HBQ.out]; exact MZ.out⟩
          · obtain rfl := hmem hst
            have A1 := Lib.hid (alike06 hM.out.r5.r4)
            have q10 : (j.op == 10) = false := beq_eq_false_iff_ne.2 (fun h => hst (.inl h))
            have q15 : (j.op == 15) = false := beq_eq_false_iff_ne.2 (fun h => hst (.inr (.inl h)))
            have q16 : (j.op == 16) = false := beq_eq_false_iff_ne.2 (fun h => hst (.inr (.inr h)))
            clear hst hmem hsto0
            go_wp2_with fail
            refine (A1.out).mono ?_
            rintro e wz ⟨rfl, mz⟩
            have MZ := Lib.hid mz.bel
            clear mz A1 hM
            go_wp2
            go_ret
            exact ⟨rfl, by rw [HBQ.out]; exact MZ.out⟩
    · have hmf : mayS j = false := by simpa using hmay
      have MZ := Lib.hid M6.out.bel
      rw [hmf]
      clear M6
      go_wp2
      go_ret
      exact ⟨rfl, by rw [HBQ.out]; exact MZ.out⟩
  · have tn : (E2 != 0) = true := bne_iff_ne.2 hE
    have MZ := Lib.hid M4.out.bel
    clear M4
    go_wp2
    go_ret
    exact ⟨rfl, by rw [HBQ.out]; exact MZ.out⟩
end Go.Proofs.Ytkpaeogjefjbfaa
