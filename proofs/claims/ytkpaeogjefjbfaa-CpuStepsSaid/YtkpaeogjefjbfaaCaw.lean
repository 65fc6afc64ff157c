/-
  Layer 6: the law's awake: the document's examples.
  Conditions: none. (My own text.)
-/
import Derived.Test.YtkpaeogjefjbfaaCbo
import Derived.Test.YtkpaeogjefjbfaaCst
import Derived.StillTailTactics
namespace Go.Proofs.Ytkpaeogjefjbfaa
open Go.RowKit Spm
set_option linter.unusedVariables false
set_option linter.unusedSimpArgs false

set_option maxRecDepth 100000 in
theorem aw_map : mapAtS [] 4096 64 7 = ([⟨4096, 64, 7, zeros 64⟩], 0) := by kernel_rfl
set_option maxRecDepth 100000 in
theorem aw_run : runS ⟨4096, 0, fun _ => 0⟩ (setS (setS [⟨4096, 64, 7, zeros 64⟩] 4096 (encS ⟨1, 1, 0, 0, 5⟩) 0).1 4104 (encS ⟨19, 1, 0, 0, 0⟩) 0).1 9 = (⟨4112, 0, upd (fun _ => 0) 1 5⟩, ⟨2, 5, 0, 0, 0⟩, 2, (setS (setS [⟨4096, 64, 7, zeros 64⟩] 4096 (encS ⟨1, 1, 0, 0, 5⟩) 0).1 4104 (encS ⟨19, 1, 0, 0, 0⟩) 0).1) := by kernel_rfl
set_option maxRecDepth 100000 in
set_option maxHeartbeats 8000000 in
theorem awake06 (w : World) : Calls Try.prog 10 #[] w fun e w' => e = .returned (.bool true) ∧ Below w.heap.size w w' ∧ w.heap.size ≤ w'.heap.size := by
  have HB := Lib.hid (Has.start (Below.refl w.heap.size w) (Nat.le_refl _))
  go_enter Try.func10, Try.ntmps10
  go_wp2_with fail
  refine (own_new HB.out).mono ?_
  rintro e w0 ⟨a, rfl, m0⟩
  have C0 := Lib.hid (own_mapAt m0 4096 64 7)
  rw [aw_map] at C0
  clear m0 HB
  go_wp2_with fail
  refine (C0.out).mono ?_
  rintro e w1 ⟨rfl, m1⟩
  have M1 := Lib.hid m1; clear m1 C0
  have K1 := Lib.hid (bytes_any ⟨1, 1, 0, 0, 5⟩ (by decide) w1)
  unfold Ins.val at K1
  try simp only at K1
  go_wp2_with fail
  refine (K1.out).mono ?_
  rintro e w11 ⟨v, rfl, hbv, hb4⟩
  obtain ⟨A1, c1, rfl, _, hc1, _⟩ := hbv.src'
  have N1 := Lib.hid (M1.out.bytes hbv hb4)
  clear hbv hb4 K1 M1
  have hsr : SrcB w11 A1 (encS ⟨1, 1, 0, 0, 5⟩) := by
    obtain ⟨A', c', e', _, _, hs⟩ := N1.out.bt.src'
    simp only [Value.slice.injEq, true_and] at e'
    obtain ⟨rfl, rfl⟩ := e'
    exact hs
  have P1 := Lib.hid (own_poke N1.out.swap 4096 (by omega) A1 c1 (encS ⟨1, 1, 0, 0, 5⟩) (show 8 ≤ 9223372036854775807 by omega) hsr)
  clear hsr
  have HL1 : (encS ⟨1, 1, 0, 0, 5⟩).length = 8 := rfl
  rw [HL1] at P1 ⊢
  go_wp2_with fail
  refine (P1.out).mono ?_
  rintro e w2 ⟨rfl, m1⟩
  have M2 := Lib.hid m1.swap.right
  clear P1 N1 m1
  have K2 := Lib.hid (bytes_any ⟨19, 1, 0, 0, 0⟩ (by decide) w2)
  unfold Ins.val at K2
  try simp only at K2
  go_wp2_with fail
  refine (K2.out).mono ?_
  rintro e w21 ⟨v, rfl, hbv, hb4⟩
  obtain ⟨A2, c2, rfl, _, hc2, _⟩ := hbv.src'
  have N2 := Lib.hid (M2.out.bytes hbv hb4)
  clear hbv hb4 K2 M2
  have hsr : SrcB w21 A2 (encS ⟨19, 1, 0, 0, 0⟩) := by
    obtain ⟨A', c', e', _, _, hs⟩ := N2.out.bt.src'
    simp only [Value.slice.injEq, true_and] at e'
    obtain ⟨rfl, rfl⟩ := e'
    exact hs
  have P2 := Lib.hid (own_poke N2.out.swap 4104 (by omega) A2 c2 (encS ⟨19, 1, 0, 0, 0⟩) (show 8 ≤ 9223372036854775807 by omega) hsr)
  clear hsr
  have HL2 : (encS ⟨19, 1, 0, 0, 0⟩).length = 8 := rfl
  rw [HL2] at P2 ⊢
  go_wp2_with fail
  refine (P2.out).mono ?_
  rintro e w3 ⟨rfl, m2⟩
  have M3 := Lib.hid m2.swap.right
  clear P2 N2 m2

  have R := Lib.hid (run_any M3.out (cx := ⟨4096, 0, fun _ => 0⟩) ⟨(⟨by decide, by decide⟩ : I64 4096), (⟨by decide, by decide⟩ : I64 0), fun k => (⟨by decide, by decide⟩ : I64 0)⟩ 9 (by omega))
  rw [aw_run] at R
  unfold Ctx.val at R
  simp only at R
  go_wp2_with fail
  refine (R.out).mono ?_
  rintro e w4 ⟨rfl, m4⟩
  clear R M3
  have e1 : (w4.alloc (.cells #[.int .i64 0, .int .i64 0, .int .i64 0, .int .i64 0, .int .i64 0, .int .i64 0, .int .i64 0, .int .i64 0, .int .i64 0, .int .i64 0, .int .i64 0, .int .i64 0, .int .i64 0, .int .i64 0, .int .i64 0, .int .i64 0, .int .i64 0, .int .i64 0] 37)).heap.size = w4.heap.size + 1 := by simp
  have M4 := Lib.hid ((m4.newcel 37 #[.int .i64 0, .int .i64 0, .int .i64 0, .int .i64 0, .int .i64 0, .int .i64 0, .int .i64 0, .int .i64 0, .int .i64 0, .int .i64 0, .int .i64 0, .int .i64 0, .int .i64 0, .int .i64 0, .int .i64 0, .int .i64 0, .int .i64 0, .int .i64 0]).newcel 40 #[.int .i64 0, .int .i64 0, .int .i64 0, .int .i64 0, .int .i64 0]); clear m4
  rw [e1] at M4
  have M5 := Lib.hid (M4.out.swap.setrow #[.int .i64 4112, .int .i64 0, .int .i64 0, .int .i64 5, .int .i64 0, .int .i64 0, .int .i64 0, .int .i64 0, .int .i64 0, .int .i64 0, .int .i64 0, .int .i64 0, .int .i64 0, .int .i64 0, .int .i64 0, .int .i64 0, .int .i64 0, .int .i64 0]).swap
  have M6 := Lib.hid (M5.out.setrow #[.int .i64 2, .int .i64 5, .int .i64 0, .int .i64 0, .int .i64 0])
  unfold Ctx.val Evt.val
  simp only [upd]
  go_upto_region 7 with (first | (refine wpList_store_row rfl 37 _ _ rfl w4.heap.size #[.int .i64 4112, .int .i64 0, .int .i64 0, .int .i64 5, .int .i64 0, .int .i64 0, .int .i64 0, .int .i64 0, .int .i64 0, .int .i64 0, .int .i64 0, .int .i64 0, .int .i64 0, .int .i64 0, .int .i64 0, .int .i64 0, .int .i64 0, .int .i64 0] rfl rfl 37 #[.int .i64 0, .int .i64 0, .int .i64 0, .int .i64 0, .int .i64 0, .int .i64 0, .int .i64 0, .int .i64 0, .int .i64 0, .int .i64 0, .int .i64 0, .int .i64 0, .int .i64 0, .int .i64 0, .int .i64 0, .int .i64 0, .int .i64 0, .int .i64 0] M4.out.swap.cel (by kernel_rfl) rfl (by kernel_rfl) ?_) | (refine wpList_store_row rfl 40 _ _ rfl (w4.heap.size + 1) #[.int .i64 2, .int .i64 5, .int .i64 0, .int .i64 0, .int .i64 0] rfl rfl 40 #[.int .i64 0, .int .i64 0, .int .i64 0, .int .i64 0, .int .i64 0] M5.out.cel (by kernel_rfl) rfl (by kernel_rfl) ?_))
  obtain ⟨W, hW⟩ : ∃ W, (((w4.alloc (.cells #[.int .i64 0, .int .i64 0, .int .i64 0, .int .i64 0, .int .i64 0, .int .i64 0, .int .i64 0, .int .i64 0, .int .i64 0, .int .i64 0, .int .i64 0, .int .i64 0, .int .i64 0, .int .i64 0, .int .i64 0, .int .i64 0, .int .i64 0, .int .i64 0] 37)).alloc (.cells #[.int .i64 0, .int .i64 0, .int .i64 0, .int .i64 0, .int .i64 0] 40)).setRow w4.heap.size #[.int .i64 4112, .int .i64 0, .int .i64 0, .int .i64 5, .int .i64 0, .int .i64 0, .int .i64 0, .int .i64 0, .int .i64 0, .int .i64 0, .int .i64 0, .int .i64 0, .int .i64 0, .int .i64 0, .int .i64 0, .int .i64 0, .int .i64 0, .int .i64 0]).setRow (w4.heap.size + 1) #[.int .i64 2, .int .i64 5, .int .i64 0, .int .i64 0, .int .i64 0] = W := ⟨_, rfl⟩
  rw [hW] at M6 ⊢
  clear hW e1 M4 M5
  generalize w4.heap.size + 1 = b4 at M6 ⊢
  generalize w4.heap.size = b3 at M6 ⊢
  have p0 : W.cell? ⟨b3, 0, none⟩ = some (.int .i64 4112) := by rw [M6.out.swap.cel.cell]; rfl
  have p3 : W.cell? ⟨b3, 3, none⟩ = some (.int .i64 5) := by rw [M6.out.swap.cel.cell]; rfl
  go_wp2_with (first | (refine wpList_load_row rfl 40 _ rfl b4 rfl 40 #[.int .i64 2, .int .i64 5, .int .i64 0, .int .i64 0, .int .i64 0] (0, 0) _ M6.out.cel Try.underlying40 rfl (by kernel_rfl) ?_))
  go_ret
  exact ⟨rfl, M6.out.bel, M6.out.le⟩
end Go.Proofs.Ytkpaeogjefjbfaa
