/-
  Layer 6: CpuReckons: the walk.
  Conditions: none. (My own text.)
-/
import Derived.Test.YtkpaeogjefjbfaaCaw
namespace Go.Proofs.Ytkpaeogjefjbfaa
open Go.RowKit Spm
set_option linter.unusedVariables false
set_option linter.unusedSimpArgs false

set_option maxRecDepth 100000 in
theorem re_run (a b : Int) : runS ⟨4096, 0, upd (upd (fun _ => 0) 1 a) 2 b⟩ (setS (setS (setS (setS (setS (setS [⟨4096, 64, 7, zeros 64⟩] 4096 (encS ⟨3, 3, 1, 2, 0⟩) 0).1 4104 (encS ⟨4, 4, 3, 2, 0⟩) 0).1 4112 (encS ⟨5, 5, 1, 2, 0⟩) 0).1 4120 (encS ⟨7, 6, 1, 2, 0⟩) 0).1 4128 (encS ⟨7, 7, 2, 1, 0⟩) 0).1 4136 (encS ⟨8, 8, 1, 2, 0⟩) 0).1 6 = (⟨4144, 0, upd (upd (upd (upd (upd (upd (upd (upd (fun _ => 0) 1 a) 2 b) 3 (wrap64 (a + b))) 4 (wrap64 (wrap64 (a + b) - b))) 5 (wrap64 (a * b))) 6 (if a < b then 1 else 0)) 7 (if b < a then 1 else 0)) 8 (if a = b then 1 else 0)⟩, ⟨6, 0, 0, 0, 0⟩, 6, (setS (setS (setS (setS (setS (setS [⟨4096, 64, 7, zeros 64⟩] 4096 (encS ⟨3, 3, 1, 2, 0⟩) 0).1 4104 (encS ⟨4, 4, 3, 2, 0⟩) 0).1 4112 (encS ⟨5, 5, 1, 2, 0⟩) 0).1 4120 (encS ⟨7, 6, 1, 2, 0⟩) 0).1 4128 (encS ⟨7, 7, 2, 1, 0⟩) 0).1 4136 (encS ⟨8, 8, 1, 2, 0⟩) 0).1) := by kernel_rfl
set_option maxRecDepth 100000 in
set_option maxHeartbeats 8000000 in
theorem reckons_walk (a b : Int) (ha : I64 a) (hb : I64 b) (w : World) : Calls Try.prog 3 #[.int .i64 a, .int .i64 b] w fun e w' => e = .returned (.bool true) ∧ Below w.heap.size w w' := by
  have HA := Lib.hid ha
  have HB := Lib.hid hb
  clear ha hb
  go_enter Try.func3, Try.ntmps3
  go_wp2_with fail
  refine (awake06 w).mono ?_
  rintro e v0 ⟨rfl, hb0, hl0⟩
  have S0 := Lib.hid (Has.start hb0 hl0)
  clear hb0 hl0
  go_wp2_with fail
  refine (own_new S0.out).mono ?_
  rintro e w0 ⟨s, rfl, m0⟩
  have D0 := Lib.hid (own_mapAt m0 4096 64 7)
  rw [aw_map] at D0
  clear m0 S0
  go_wp2_with fail
  refine (D0.out).mono ?_
  rintro e w1 ⟨rfl, m1⟩
  have M2 := Lib.hid (m1.newcel 30 #[.int .i64 3, .int .i64 3, .int .i64 1, .int .i64 2, .int .i64 0, .int .i64 4, .int .i64 4, .int .i64 3, .int .i64 2, .int .i64 0, .int .i64 5, .int .i64 5, .int .i64 1, .int .i64 2, .int .i64 0, .int .i64 7, .int .i64 6, .int .i64 1, .int .i64 2, .int .i64 0, .int .i64 7, .int .i64 7, .int .i64 2, .int .i64 1, .int .i64 0, .int .i64 8, .int .i64 8, .int .i64 1, .int .i64 2, .int .i64 0]); clear m1 D0
  go_wp2_with fail
  obtain ⟨w2, hw2⟩ : ∃ w2, w1.alloc (.cells #[.int .i64 3, .int .i64 3, .int .i64 1, .int .i64 2, .int .i64 0, .int .i64 4, .int .i64 4, .int .i64 3, .int .i64 2, .int .i64 0, .int .i64 5, .int .i64 5, .int .i64 1, .int .i64 2, .int .i64 0, .int .i64 7, .int .i64 6, .int .i64 1, .int .i64 2, .int .i64 0, .int .i64 7, .int .i64 7, .int .i64 2, .int .i64 1, .int .i64 0, .int .i64 8, .int .i64 8, .int .i64 1, .int .i64 2, .int .i64 0] 30) = w2 := ⟨_, rfl⟩
  rw [hw2] at M2 ⊢
  generalize w1.heap.size = q at M2 ⊢
  clear hw2
  refine wp_loop_rounds 8 ?_
  rw [rounds_succ]
  have ec0 : w2.cell? ⟨q, 0, none⟩ = some (.int .i64 3) := by rw [M2.out.cel.cell]; rfl
  have ec1 : w2.cell? ⟨q, 1, none⟩ = some (.int .i64 3) := by rw [M2.out.cel.cell]; rfl
  have ec2 : w2.cell? ⟨q, 2, none⟩ = some (.int .i64 1) := by rw [M2.out.cel.cell]; rfl
  have ec3 : w2.cell? ⟨q, 3, none⟩ = some (.int .i64 2) := by rw [M2.out.cel.cell]; rfl
  have ec4 : w2.cell? ⟨q, 4, none⟩ = some (.int .i64 0) := by rw [M2.out.cel.cell]; rfl
  have K2 := Lib.hid (bytes_any ⟨3, 3, 1, 2, 0⟩ (by decide) w2)
  unfold Ins.val at K2
  try simp only at K2
  go_wp2_with fail
  refine (K2.out).mono ?_
  rintro e w21 ⟨v, rfl, hbv, hb4⟩
  obtain ⟨A2, c2, rfl, _, hc2, _⟩ := hbv.src'
  have N2 := Lib.hid (M2.out.bytes hbv hb4)
  clear hbv hb4 K2 M2 ec0 ec1 ec2 ec3 ec4
  have hsr : SrcB w21 A2 (encS ⟨3, 3, 1, 2, 0⟩) := by
    obtain ⟨A', c', e', _, _, hs⟩ := N2.out.bt.src'
    simp only [Value.slice.injEq, true_and] at e'
    obtain ⟨rfl, rfl⟩ := e'
    exact hs
  have P2 := Lib.hid (own_poke N2.out.r3 4096 (by omega) A2 c2 (encS ⟨3, 3, 1, 2, 0⟩) (show 8 ≤ 9223372036854775807 by omega) hsr)
  clear hsr
  have HL2 : (encS ⟨3, 3, 1, 2, 0⟩).length = 8 := rfl
  rw [HL2] at P2 ⊢
  go_wp2_with fail
  refine (P2.out).mono ?_
  rintro e w3 ⟨rfl, m2⟩
  have M3 := Lib.hid m2.swap.right.swap
  clear P2 N2 m2 HL2 hc2
  go_wp2_with fail
  rw [rounds_succ]
  have ec0 : w3.cell? ⟨q, 5, none⟩ = some (.int .i64 4) := by rw [M3.out.cel.cell]; rfl
  have ec1 : w3.cell? ⟨q, 6, none⟩ = some (.int .i64 4) := by rw [M3.out.cel.cell]; rfl
  have ec2 : w3.cell? ⟨q, 7, none⟩ = some (.int .i64 3) := by rw [M3.out.cel.cell]; rfl
  have ec3 : w3.cell? ⟨q, 8, none⟩ = some (.int .i64 2) := by rw [M3.out.cel.cell]; rfl
  have ec4 : w3.cell? ⟨q, 9, none⟩ = some (.int .i64 0) := by rw [M3.out.cel.cell]; rfl
  have K3 := Lib.hid (bytes_any ⟨4, 4, 3, 2, 0⟩ (by decide) w3)
  unfold Ins.val at K3
  try simp only at K3
  go_wp2_with fail
  refine (K3.out).mono ?_
  rintro e w31 ⟨v, rfl, hbv, hb4⟩
  obtain ⟨A3, c3, rfl, _, hc3, _⟩ := hbv.src'
  have N3 := Lib.hid (M3.out.bytes hbv hb4)
  clear hbv hb4 K3 M3 ec0 ec1 ec2 ec3 ec4
  have hsr : SrcB w31 A3 (encS ⟨4, 4, 3, 2, 0⟩) := by
    obtain ⟨A', c', e', _, _, hs⟩ := N3.out.bt.src'
    simp only [Value.slice.injEq, true_and] at e'
    obtain ⟨rfl, rfl⟩ := e'
    exact hs
  have P3 := Lib.hid (own_poke N3.out.r3 4104 (by omega) A3 c3 (encS ⟨4, 4, 3, 2, 0⟩) (show 8 ≤ 9223372036854775807 by omega) hsr)
  clear hsr
  have HL3 : (encS ⟨4, 4, 3, 2, 0⟩).length = 8 := rfl
  rw [HL3] at P3 ⊢
  go_wp2_with fail
  refine (P3.out).mono ?_
  rintro e w4 ⟨rfl, m3⟩
  have M4 := Lib.hid m3.swap.right.swap
  clear P3 N3 m3 HL3 hc3
  go_wp2_with fail
  rw [rounds_succ]
  have ec0 : w4.cell? ⟨q, 10, none⟩ = some (.int .i64 5) := by rw [M4.out.cel.cell]; rfl
  have ec1 : w4.cell? ⟨q, 11, none⟩ = some (.int .i64 5) := by rw [M4.out.cel.cell]; rfl
  have ec2 : w4.cell? ⟨q, 12, none⟩ = some (.int .i64 1) := by rw [M4.out.cel.cell]; rfl
  have ec3 : w4.cell? ⟨q, 13, none⟩ = some (.int .i64 2) := by rw [M4.out.cel.cell]; rfl
  have ec4 : w4.cell? ⟨q, 14, none⟩ = some (.int .i64 0) := by rw [M4.out.cel.cell]; rfl
  have K4 := Lib.hid (bytes_any ⟨5, 5, 1, 2, 0⟩ (by decide) w4)
  unfold Ins.val at K4
  try simp only at K4
  go_wp2_with fail
  refine (K4.out).mono ?_
  rintro e w41 ⟨v, rfl, hbv, hb4⟩
  obtain ⟨A4, c4, rfl, _, hc4, _⟩ := hbv.src'
  have N4 := Lib.hid (M4.out.bytes hbv hb4)
  clear hbv hb4 K4 M4 ec0 ec1 ec2 ec3 ec4
  have hsr : SrcB w41 A4 (encS ⟨5, 5, 1, 2, 0⟩) := by
    obtain ⟨A', c', e', _, _, hs⟩ := N4.out.bt.src'
    simp only [Value.slice.injEq, true_and] at e'
    obtain ⟨rfl, rfl⟩ := e'
    exact hs
  have P4 := Lib.hid (own_poke N4.out.r3 4112 (by omega) A4 c4 (encS ⟨5, 5, 1, 2, 0⟩) (show 8 ≤ 9223372036854775807 by omega) hsr)
  clear hsr
  have HL4 : (encS ⟨5, 5, 1, 2, 0⟩).length = 8 := rfl
  rw [HL4] at P4 ⊢
  go_wp2_with fail
  refine (P4.out).mono ?_
  rintro e w5 ⟨rfl, m4⟩
  have M5 := Lib.hid m4.swap.right.swap
  clear P4 N4 m4 HL4 hc4
  go_wp2_with fail
  rw [rounds_succ]
  have ec0 : w5.cell? ⟨q, 15, none⟩ = some (.int .i64 7) := by rw [M5.out.cel.cell]; rfl
  have ec1 : w5.cell? ⟨q, 16, none⟩ = some (.int .i64 6) := by rw [M5.out.cel.cell]; rfl
  have ec2 : w5.cell? ⟨q, 17, none⟩ = some (.int .i64 1) := by rw [M5.out.cel.cell]; rfl
  have ec3 : w5.cell? ⟨q, 18, none⟩ = some (.int .i64 2) := by rw [M5.out.cel.cell]; rfl
  have ec4 : w5.cell? ⟨q, 19, none⟩ = some (.int .i64 0) := by rw [M5.out.cel.cell]; rfl
  have K5 := Lib.hid (bytes_any ⟨7, 6, 1, 2, 0⟩ (by decide) w5)
  unfold Ins.val at K5
  try simp only at K5
  go_wp2_with fail
  refine (K5.out).mono ?_
  rintro e w51 ⟨v, rfl, hbv, hb4⟩
  obtain ⟨A5, c5, rfl, _, hc5, _⟩ := hbv.src'
  have N5 := Lib.hid (M5.out.bytes hbv hb4)
  clear hbv hb4 K5 M5 ec0 ec1 ec2 ec3 ec4
  have hsr : SrcB w51 A5 (encS ⟨7, 6, 1, 2, 0⟩) := by
    obtain ⟨A', c', e', _, _, hs⟩ := N5.out.bt.src'
    simp only [Value.slice.injEq, true_and] at e'
    obtain ⟨rfl, rfl⟩ := e'
    exact hs
  have P5 := Lib.hid (own_poke N5.out.r3 4120 (by omega) A5 c5 (encS ⟨7, 6, 1, 2, 0⟩) (show 8 ≤ 9223372036854775807 by omega) hsr)
  clear hsr
  have HL5 : (encS ⟨7, 6, 1, 2, 0⟩).length = 8 := rfl
  rw [HL5] at P5 ⊢
  go_wp2_with fail
  refine (P5.out).mono ?_
  rintro e w6 ⟨rfl, m5⟩
  have M6 := Lib.hid m5.swap.right.swap
  clear P5 N5 m5 HL5 hc5
  go_wp2_with fail
  rw [rounds_succ]
  have ec0 : w6.cell? ⟨q, 20, none⟩ = some (.int .i64 7) := by rw [M6.out.cel.cell]; rfl
  have ec1 : w6.cell? ⟨q, 21, none⟩ = some (.int .i64 7) := by rw [M6.out.cel.cell]; rfl
  have ec2 : w6.cell? ⟨q, 22, none⟩ = some (.int .i64 2) := by rw [M6.out.cel.cell]; rfl
  have ec3 : w6.cell? ⟨q, 23, none⟩ = some (.int .i64 1) := by rw [M6.out.cel.cell]; rfl
  have ec4 : w6.cell? ⟨q, 24, none⟩ = some (.int .i64 0) := by rw [M6.out.cel.cell]; rfl
  have K6 := Lib.hid (bytes_any ⟨7, 7, 2, 1, 0⟩ (by decide) w6)
  unfold Ins.val at K6
  try simp only at K6
  go_wp2_with fail
  refine (K6.out).mono ?_
  rintro e w61 ⟨v, rfl, hbv, hb4⟩
  obtain ⟨A6, c6, rfl, _, hc6, _⟩ := hbv.src'
  have N6 := Lib.hid (M6.out.bytes hbv hb4)
  clear hbv hb4 K6 M6 ec0 ec1 ec2 ec3 ec4
  have hsr : SrcB w61 A6 (encS ⟨7, 7, 2, 1, 0⟩) := by
    obtain ⟨A', c', e', _, _, hs⟩ := N6.out.bt.src'
    simp only [Value.slice.injEq, true_and] at e'
    obtain ⟨rfl, rfl⟩ := e'
    exact hs
  have P6 := Lib.hid (own_poke N6.out.r3 4128 (by omega) A6 c6 (encS ⟨7, 7, 2, 1, 0⟩) (show 8 ≤ 9223372036854775807 by omega) hsr)
  clear hsr
  have HL6 : (encS ⟨7, 7, 2, 1, 0⟩).length = 8 := rfl
  rw [HL6] at P6 ⊢
  go_wp2_with fail
  refine (P6.out).mono ?_
  rintro e w7 ⟨rfl, m6⟩
  have M7 := Lib.hid m6.swap.right.swap
  clear P6 N6 m6 HL6 hc6
  go_wp2_with fail
  rw [rounds_succ]
  have ec0 : w7.cell? ⟨q, 25, none⟩ = some (.int .i64 8) := by rw [M7.out.cel.cell]; rfl
  have ec1 : w7.cell? ⟨q, 26, none⟩ = some (.int .i64 8) := by rw [M7.out.cel.cell]; rfl
  have ec2 : w7.cell? ⟨q, 27, none⟩ = some (.int .i64 1) := by rw [M7.out.cel.cell]; rfl
  have ec3 : w7.cell? ⟨q, 28, none⟩ = some (.int .i64 2) := by rw [M7.out.cel.cell]; rfl
  have ec4 : w7.cell? ⟨q, 29, none⟩ = some (.int .i64 0) := by rw [M7.out.cel.cell]; rfl
  have K7 := Lib.hid (bytes_any ⟨8, 8, 1, 2, 0⟩ (by decide) w7)
  unfold Ins.val at K7
  try simp only at K7
  go_wp2_with fail
  refine (K7.out).mono ?_
  rintro e w71 ⟨v, rfl, hbv, hb4⟩
  obtain ⟨A7, c7, rfl, _, hc7, _⟩ := hbv.src'
  have N7 := Lib.hid (M7.out.bytes hbv hb4)
  clear hbv hb4 K7 M7 ec0 ec1 ec2 ec3 ec4
  have hsr : SrcB w71 A7 (encS ⟨8, 8, 1, 2, 0⟩) := by
    obtain ⟨A', c', e', _, _, hs⟩ := N7.out.bt.src'
    simp only [Value.slice.injEq, true_and] at e'
    obtain ⟨rfl, rfl⟩ := e'
    exact hs
  have P7 := Lib.hid (own_poke N7.out.r3 4136 (by omega) A7 c7 (encS ⟨8, 8, 1, 2, 0⟩) (show 8 ≤ 9223372036854775807 by omega) hsr)
  clear hsr
  have HL7 : (encS ⟨8, 8, 1, 2, 0⟩).length = 8 := rfl
  rw [HL7] at P7 ⊢
  go_wp2_with fail
  refine (P7.out).mono ?_
  rintro e w8 ⟨rfl, m7⟩
  have M8 := Lib.hid m7.swap.right.swap
  clear P7 N7 m7 HL7 hc7
  go_wp2_with fail
  rw [rounds_succ]
  have M9 := Lib.hid (M8.out.newcel 37 #[.int .i64 0, .int .i64 0, .int .i64 0, .int .i64 0, .int .i64 0, .int .i64 0, .int .i64 0, .int .i64 0, .int .i64 0, .int .i64 0, .int .i64 0, .int .i64 0, .int .i64 0, .int .i64 0, .int .i64 0, .int .i64 0, .int .i64 0, .int .i64 0])
  have M10 := Lib.hid (M9.out.setrow #[.int .i64 4096, .int .i64 0, .int .i64 0, .int .i64 0, .int .i64 0, .int .i64 0, .int .i64 0, .int .i64 0, .int .i64 0, .int .i64 0, .int .i64 0, .int .i64 0, .int .i64 0, .int .i64 0, .int .i64 0, .int .i64 0, .int .i64 0, .int .i64 0])
  clear M8
  go_upto_region 11 with (first | (refine wpList_store_row rfl 37 _ _ rfl w8.heap.size #[.int .i64 4096, .int .i64 0, .int .i64 0, .int .i64 0, .int .i64 0, .int .i64 0, .int .i64 0, .int .i64 0, .int .i64 0, .int .i64 0, .int .i64 0, .int .i64 0, .int .i64 0, .int .i64 0, .int .i64 0, .int .i64 0, .int .i64 0, .int .i64 0] rfl rfl 37 #[.int .i64 0, .int .i64 0, .int .i64 0, .int .i64 0, .int .i64 0, .int .i64 0, .int .i64 0, .int .i64 0, .int .i64 0, .int .i64 0, .int .i64 0, .int .i64 0, .int .i64 0, .int .i64 0, .int .i64 0, .int .i64 0, .int .i64 0, .int .i64 0] M9.out.cel (by kernel_rfl) rfl (by kernel_rfl) ?_))
  obtain ⟨W0, hW0⟩ : ∃ W0, (w8.alloc (.cells #[.int .i64 0, .int .i64 0, .int .i64 0, .int .i64 0, .int .i64 0, .int .i64 0, .int .i64 0, .int .i64 0, .int .i64 0, .int .i64 0, .int .i64 0, .int .i64 0, .int .i64 0, .int .i64 0, .int .i64 0, .int .i64 0, .int .i64 0, .int .i64 0] 37)).setRow w8.heap.size #[.int .i64 4096, .int .i64 0, .int .i64 0, .int .i64 0, .int .i64 0, .int .i64 0, .int .i64 0, .int .i64 0, .int .i64 0, .int .i64 0, .int .i64 0, .int .i64 0, .int .i64 0, .int .i64 0, .int .i64 0, .int .i64 0, .int .i64 0, .int .i64 0] = W0 := ⟨_, rfl⟩
  rw [hW0] at M10 ⊢
  clear hW0 M9
  generalize w8.heap.size = b3 at M10 ⊢
  have p3 : W0.cell? ⟨b3, 3, none⟩ = some (.int .i64 0) := by rw [M10.out.cel.cell]; rfl
  have f3 : W0.frozen? ⟨b3, 3, none⟩ = false := M10.out.cel.free 3
  have M11 : Hid (Has w.heap.size w (W0.setCell ⟨b3, 3, none⟩ (.int .i64 a)) (Star (Cel b3 37 #[.int .i64 4096, .int .i64 0, .int .i64 0, .int .i64 a, .int .i64 0, .int .i64 0, .int .i64 0, .int .i64 0, .int .i64 0, .int .i64 0, .int .i64 0, .int .i64 0, .int .i64 0, .int .i64 0, .int .i64 0, .int .i64 0, .int .i64 0, .int .i64 0]) (Star (Cel q 30 #[.int .i64 3, .int .i64 3, .int .i64 1, .int .i64 2, .int .i64 0, .int .i64 4, .int .i64 4, .int .i64 3, .int .i64 2, .int .i64 0, .int .i64 5, .int .i64 5, .int .i64 1, .int .i64 2, .int .i64 0, .int .i64 7, .int .i64 6, .int .i64 1, .int .i64 2, .int .i64 0, .int .i64 7, .int .i64 7, .int .i64 2, .int .i64 1, .int .i64 0, .int .i64 8, .int .i64 8, .int .i64 1, .int .i64 2, .int .i64 0]) (Star (Sp s (setS (setS (setS (setS (setS (setS [⟨4096, 64, 7, zeros 64⟩] 4096 (encS ⟨3, 3, 1, 2, 0⟩) 0).1 4104 (encS ⟨4, 4, 3, 2, 0⟩) 0).1 4112 (encS ⟨5, 5, 1, 2, 0⟩) 0).1 4120 (encS ⟨7, 6, 1, 2, 0⟩) 0).1 4128 (encS ⟨7, 7, 2, 1, 0⟩) 0).1 4136 (encS ⟨8, 8, 1, 2, 0⟩) 0).1) Emp)))) := Lib.hid (M10.out.store 3 (.int .i64 a))
  have p4 : (W0.setCell ⟨b3, 3, none⟩ (.int .i64 a)).cell? ⟨b3, 4, none⟩ = some (.int .i64 0) := by rw [M11.out.cel.cell]; rfl
  have f4 : (W0.setCell ⟨b3, 3, none⟩ (.int .i64 a)).frozen? ⟨b3, 4, none⟩ = false := M11.out.cel.free 4
  have M12 : Hid (Has w.heap.size w ((W0.setCell ⟨b3, 3, none⟩ (.int .i64 a)).setCell ⟨b3, 4, none⟩ (.int .i64 b)) (Star (Cel b3 37 #[.int .i64 4096, .int .i64 0, .int .i64 0, .int .i64 a, .int .i64 b, .int .i64 0, .int .i64 0, .int .i64 0, .int .i64 0, .int .i64 0, .int .i64 0, .int .i64 0, .int .i64 0, .int .i64 0, .int .i64 0, .int .i64 0, .int .i64 0, .int .i64 0]) (Star (Cel q 30 #[.int .i64 3, .int .i64 3, .int .i64 1, .int .i64 2, .int .i64 0, .int .i64 4, .int .i64 4, .int .i64 3, .int .i64 2, .int .i64 0, .int .i64 5, .int .i64 5, .int .i64 1, .int .i64 2, .int .i64 0, .int .i64 7, .int .i64 6, .int .i64 1, .int .i64 2, .int .i64 0, .int .i64 7, .int .i64 7, .int .i64 2, .int .i64 1, .int .i64 0, .int .i64 8, .int .i64 8, .int .i64 1, .int .i64 2, .int .i64 0]) (Star (Sp s (setS (setS (setS (setS (setS (setS [⟨4096, 64, 7, zeros 64⟩] 4096 (encS ⟨3, 3, 1, 2, 0⟩) 0).1 4104 (encS ⟨4, 4, 3, 2, 0⟩) 0).1 4112 (encS ⟨5, 5, 1, 2, 0⟩) 0).1 4120 (encS ⟨7, 6, 1, 2, 0⟩) 0).1 4128 (encS ⟨7, 7, 2, 1, 0⟩) 0).1 4136 (encS ⟨8, 8, 1, 2, 0⟩) 0).1) Emp)))) := Lib.hid (M11.out.store 4 (.int .i64 b))
  go_upto_region 13 with fail
  obtain ⟨W1, hW1⟩ : ∃ W1, (W0.setCell ⟨b3, 3, none⟩ (.int .i64 a)).setCell ⟨b3, 4, none⟩ (.int .i64 b) = W1 := ⟨_, rfl⟩
  rw [hW1] at M12 ⊢
  clear hW1 M10 M11 p3 f3 p4 f4
  have R := Lib.hid (run_any M12.out.r3 (cx := ⟨4096, 0, upd (upd (fun _ => 0) 1 a) 2 b⟩) ⟨(⟨by decide, by decide⟩ : I64 4096), (⟨by decide, by decide⟩ : I64 0), fun k => by
    simp only [upd]; split; exact HB.out; split; exact HA.out; exact (⟨by decide, by decide⟩ : I64 0)⟩ 6 (by omega))
  have h4 : wrap64 (wrap64 (a + b) - b) = a := by
    have h1 := HA.out
    unfold I64 at h1
    unfold wrap64; omega
  rw [re_run, h4] at R
  generalize wrap64 (a + b) = x3 at h4 R
  unfold Ctx.val at R
  simp only [upd] at R
  go_wp2_with (first | (refine wpList_load_row rfl 37 _ rfl b3 rfl 37 #[.int .i64 4096, .int .i64 0, .int .i64 0, .int .i64 a, .int .i64 b, .int .i64 0, .int .i64 0, .int .i64 0, .int .i64 0, .int .i64 0, .int .i64 0, .int .i64 0, .int .i64 0, .int .i64 0, .int .i64 0, .int .i64 0, .int .i64 0, .int .i64 0] (0, 0) _ M12.out.cel Try.underlying37 rfl (by kernel_rfl) ?_))
  refine (R.out).mono ?_
  rintro e w9 ⟨rfl, m9⟩
  clear R M12
  unfold Ctx.val Evt.val
  simp only [upd]
  have M13 := Lib.hid (m9.swap.newcel 40 #[.int .i64 0, .int .i64 0, .int .i64 0, .int .i64 0, .int .i64 0]); clear m9
  rcases Int.lt_trichotomy a b with hlt | heq | hgt
  · have d1 : (if a < b then (1 : Int) else 0) = 1 := if_pos hlt
    have d2 : (if b < a then (1 : Int) else 0) = 0 := if_neg (by omega)
    have d3 : (if a = b then (1 : Int) else 0) = 0 := if_neg (by omega)
    have q1 : (a == b) = false := beq_eq_false_iff_ne.2 (by omega)
    rw [d1, d2, d3]
    have M14 := Lib.hid (M13.out.swap.setrow #[.int .i64 4144, .int .i64 0, .int .i64 0, .int .i64 a, .int .i64 b, .int .i64 x3, .int .i64 a, .int .i64 (wrap64 (a * b)), .int .i64 1, .int .i64 0, .int .i64 0, .int .i64 0, .int .i64 0, .int .i64 0, .int .i64 0, .int .i64 0, .int .i64 0, .int .i64 0]).swap
    have M15 := Lib.hid (M14.out.setrow #[.int .i64 6, .int .i64 0, .int .i64 0, .int .i64 0, .int .i64 0])
    have g0 : (((w9.alloc (.cells #[.int .i64 0, .int .i64 0, .int .i64 0, .int .i64 0, .int .i64 0] 40)).setRow b3 #[.int .i64 4144, .int .i64 0, .int .i64 0, .int .i64 a, .int .i64 b, .int .i64 x3, .int .i64 a, .int .i64 (wrap64 (a * b)), .int .i64 1, .int .i64 0, .int .i64 0, .int .i64 0, .int .i64 0, .int .i64 0, .int .i64 0, .int .i64 0, .int .i64 0, .int .i64 0]).setRow w9.heap.size #[.int .i64 6, .int .i64 0, .int .i64 0, .int .i64 0, .int .i64 0]).cell? ⟨w9.heap.size, 0, none⟩ = some (.int .i64 6) := by rw [M15.out.cel.cell]; rfl
    have g5 : (((w9.alloc (.cells #[.int .i64 0, .int .i64 0, .int .i64 0, .int .i64 0, .int .i64 0] 40)).setRow b3 #[.int .i64 4144, .int .i64 0, .int .i64 0, .int .i64 a, .int .i64 b, .int .i64 x3, .int .i64 a, .int .i64 (wrap64 (a * b)), .int .i64 1, .int .i64 0, .int .i64 0, .int .i64 0, .int .i64 0, .int .i64 0, .int .i64 0, .int .i64 0, .int .i64 0, .int .i64 0]).setRow w9.heap.size #[.int .i64 6, .int .i64 0, .int .i64 0, .int .i64 0, .int .i64 0]).cell? ⟨b3, 5, none⟩ = some (.int .i64 x3) := by rw [M15.out.swap.cel.cell]; rfl
    have g6 : (((w9.alloc (.cells #[.int .i64 0, .int .i64 0, .int .i64 0, .int .i64 0, .int .i64 0] 40)).setRow b3 #[.int .i64 4144, .int .i64 0, .int .i64 0, .int .i64 a, .int .i64 b, .int .i64 x3, .int .i64 a, .int .i64 (wrap64 (a * b)), .int .i64 1, .int .i64 0, .int .i64 0, .int .i64 0, .int .i64 0, .int .i64 0, .int .i64 0, .int .i64 0, .int .i64 0, .int .i64 0]).setRow w9.heap.size #[.int .i64 6, .int .i64 0, .int .i64 0, .int .i64 0, .int .i64 0]).cell? ⟨b3, 6, none⟩ = some (.int .i64 a) := by rw [M15.out.swap.cel.cell]; rfl
    have g7 : (((w9.alloc (.cells #[.int .i64 0, .int .i64 0, .int .i64 0, .int .i64 0, .int .i64 0] 40)).setRow b3 #[.int .i64 4144, .int .i64 0, .int .i64 0, .int .i64 a, .int .i64 b, .int .i64 x3, .int .i64 a, .int .i64 (wrap64 (a * b)), .int .i64 1, .int .i64 0, .int .i64 0, .int .i64 0, .int .i64 0, .int .i64 0, .int .i64 0, .int .i64 0, .int .i64 0, .int .i64 0]).setRow w9.heap.size #[.int .i64 6, .int .i64 0, .int .i64 0, .int .i64 0, .int .i64 0]).cell? ⟨b3, 7, none⟩ = some (.int .i64 (wrap64 (a * b))) := by rw [M15.out.swap.cel.cell]; rfl
    have g8 : (((w9.alloc (.cells #[.int .i64 0, .int .i64 0, .int .i64 0, .int .i64 0, .int .i64 0] 40)).setRow b3 #[.int .i64 4144, .int .i64 0, .int .i64 0, .int .i64 a, .int .i64 b, .int .i64 x3, .int .i64 a, .int .i64 (wrap64 (a * b)), .int .i64 1, .int .i64 0, .int .i64 0, .int .i64 0, .int .i64 0, .int .i64 0, .int .i64 0, .int .i64 0, .int .i64 0, .int .i64 0]).setRow w9.heap.size #[.int .i64 6, .int .i64 0, .int .i64 0, .int .i64 0, .int .i64 0]).cell? ⟨b3, 8, none⟩ = some (.int .i64 1) := by rw [M15.out.swap.cel.cell]; rfl
    have g9 : (((w9.alloc (.cells #[.int .i64 0, .int .i64 0, .int .i64 0, .int .i64 0, .int .i64 0] 40)).setRow b3 #[.int .i64 4144, .int .i64 0, .int .i64 0, .int .i64 a, .int .i64 b, .int .i64 x3, .int .i64 a, .int .i64 (wrap64 (a * b)), .int .i64 1, .int .i64 0, .int .i64 0, .int .i64 0, .int .i64 0, .int .i64 0, .int .i64 0, .int .i64 0, .int .i64 0, .int .i64 0]).setRow w9.heap.size #[.int .i64 6, .int .i64 0, .int .i64 0, .int .i64 0, .int .i64 0]).cell? ⟨b3, 9, none⟩ = some (.int .i64 0) := by rw [M15.out.swap.cel.cell]; rfl
    have g10 : (((w9.alloc (.cells #[.int .i64 0, .int .i64 0, .int .i64 0, .int .i64 0, .int .i64 0] 40)).setRow b3 #[.int .i64 4144, .int .i64 0, .int .i64 0, .int .i64 a, .int .i64 b, .int .i64 x3, .int .i64 a, .int .i64 (wrap64 (a * b)), .int .i64 1, .int .i64 0, .int .i64 0, .int .i64 0, .int .i64 0, .int .i64 0, .int .i64 0, .int .i64 0, .int .i64 0, .int .i64 0]).setRow w9.heap.size #[.int .i64 6, .int .i64 0, .int .i64 0, .int .i64 0, .int .i64 0]).cell? ⟨b3, 10, none⟩ = some (.int .i64 0) := by rw [M15.out.swap.cel.cell]; rfl
    go_wp2_with (first | (refine wpList_store_row rfl 37 _ _ rfl b3 #[.int .i64 4144, .int .i64 0, .int .i64 0, .int .i64 a, .int .i64 b, .int .i64 x3, .int .i64 a, .int .i64 (wrap64 (a * b)), .int .i64 1, .int .i64 0, .int .i64 0, .int .i64 0, .int .i64 0, .int .i64 0, .int .i64 0, .int .i64 0, .int .i64 0, .int .i64 0] rfl rfl 37 #[.int .i64 4096, .int .i64 0, .int .i64 0, .int .i64 a, .int .i64 b, .int .i64 0, .int .i64 0, .int .i64 0, .int .i64 0, .int .i64 0, .int .i64 0, .int .i64 0, .int .i64 0, .int .i64 0, .int .i64 0, .int .i64 0, .int .i64 0, .int .i64 0] M13.out.swap.cel (by kernel_rfl) rfl (by kernel_rfl) ?_) | (refine wpList_store_row rfl 40 _ _ rfl w9.heap.size #[.int .i64 6, .int .i64 0, .int .i64 0, .int .i64 0, .int .i64 0] rfl rfl 40 #[.int .i64 0, .int .i64 0, .int .i64 0, .int .i64 0, .int .i64 0] M14.out.cel (by kernel_rfl) rfl (by kernel_rfl) ?_))
    go_ret
    exact ⟨rfl, M15.out.bel⟩
  · subst heq
    have d1 : (if a < a then (1 : Int) else 0) = 0 := if_neg (by omega)
    have d3 : (if a = a then (1 : Int) else 0) = 1 := if_pos rfl
    rw [d1, d3]
    have M14 := Lib.hid (M13.out.swap.setrow #[.int .i64 4144, .int .i64 0, .int .i64 0, .int .i64 a, .int .i64 a, .int .i64 x3, .int .i64 a, .int .i64 (wrap64 (a * a)), .int .i64 0, .int .i64 0, .int .i64 1, .int .i64 0, .int .i64 0, .int .i64 0, .int .i64 0, .int .i64 0, .int .i64 0, .int .i64 0]).swap
    have M15 := Lib.hid (M14.out.setrow #[.int .i64 6, .int .i64 0, .int .i64 0, .int .i64 0, .int .i64 0])
    have g0 : (((w9.alloc (.cells #[.int .i64 0, .int .i64 0, .int .i64 0, .int .i64 0, .int .i64 0] 40)).setRow b3 #[.int .i64 4144, .int .i64 0, .int .i64 0, .int .i64 a, .int .i64 a, .int .i64 x3, .int .i64 a, .int .i64 (wrap64 (a * a)), .int .i64 0, .int .i64 0, .int .i64 1, .int .i64 0, .int .i64 0, .int .i64 0, .int .i64 0, .int .i64 0, .int .i64 0, .int .i64 0]).setRow w9.heap.size #[.int .i64 6, .int .i64 0, .int .i64 0, .int .i64 0, .int .i64 0]).cell? ⟨w9.heap.size, 0, none⟩ = some (.int .i64 6) := by rw [M15.out.cel.cell]; rfl
    have g5 : (((w9.alloc (.cells #[.int .i64 0, .int .i64 0, .int .i64 0, .int .i64 0, .int .i64 0] 40)).setRow b3 #[.int .i64 4144, .int .i64 0, .int .i64 0, .int .i64 a, .int .i64 a, .int .i64 x3, .int .i64 a, .int .i64 (wrap64 (a * a)), .int .i64 0, .int .i64 0, .int .i64 1, .int .i64 0, .int .i64 0, .int .i64 0, .int .i64 0, .int .i64 0, .int .i64 0, .int .i64 0]).setRow w9.heap.size #[.int .i64 6, .int .i64 0, .int .i64 0, .int .i64 0, .int .i64 0]).cell? ⟨b3, 5, none⟩ = some (.int .i64 x3) := by rw [M15.out.swap.cel.cell]; rfl
    have g6 : (((w9.alloc (.cells #[.int .i64 0, .int .i64 0, .int .i64 0, .int .i64 0, .int .i64 0] 40)).setRow b3 #[.int .i64 4144, .int .i64 0, .int .i64 0, .int .i64 a, .int .i64 a, .int .i64 x3, .int .i64 a, .int .i64 (wrap64 (a * a)), .int .i64 0, .int .i64 0, .int .i64 1, .int .i64 0, .int .i64 0, .int .i64 0, .int .i64 0, .int .i64 0, .int .i64 0, .int .i64 0]).setRow w9.heap.size #[.int .i64 6, .int .i64 0, .int .i64 0, .int .i64 0, .int .i64 0]).cell? ⟨b3, 6, none⟩ = some (.int .i64 a) := by rw [M15.out.swap.cel.cell]; rfl
    have g7 : (((w9.alloc (.cells #[.int .i64 0, .int .i64 0, .int .i64 0, .int .i64 0, .int .i64 0] 40)).setRow b3 #[.int .i64 4144, .int .i64 0, .int .i64 0, .int .i64 a, .int .i64 a, .int .i64 x3, .int .i64 a, .int .i64 (wrap64 (a * a)), .int .i64 0, .int .i64 0, .int .i64 1, .int .i64 0, .int .i64 0, .int .i64 0, .int .i64 0, .int .i64 0, .int .i64 0, .int .i64 0]).setRow w9.heap.size #[.int .i64 6, .int .i64 0, .int .i64 0, .int .i64 0, .int .i64 0]).cell? ⟨b3, 7, none⟩ = some (.int .i64 (wrap64 (a * a))) := by rw [M15.out.swap.cel.cell]; rfl
    have g8 : (((w9.alloc (.cells #[.int .i64 0, .int .i64 0, .int .i64 0, .int .i64 0, .int .i64 0] 40)).setRow b3 #[.int .i64 4144, .int .i64 0, .int .i64 0, .int .i64 a, .int .i64 a, .int .i64 x3, .int .i64 a, .int .i64 (wrap64 (a * a)), .int .i64 0, .int .i64 0, .int .i64 1, .int .i64 0, .int .i64 0, .int .i64 0, .int .i64 0, .int .i64 0, .int .i64 0, .int .i64 0]).setRow w9.heap.size #[.int .i64 6, .int .i64 0, .int .i64 0, .int .i64 0, .int .i64 0]).cell? ⟨b3, 8, none⟩ = some (.int .i64 0) := by rw [M15.out.swap.cel.cell]; rfl
    have g9 : (((w9.alloc (.cells #[.int .i64 0, .int .i64 0, .int .i64 0, .int .i64 0, .int .i64 0] 40)).setRow b3 #[.int .i64 4144, .int .i64 0, .int .i64 0, .int .i64 a, .int .i64 a, .int .i64 x3, .int .i64 a, .int .i64 (wrap64 (a * a)), .int .i64 0, .int .i64 0, .int .i64 1, .int .i64 0, .int .i64 0, .int .i64 0, .int .i64 0, .int .i64 0, .int .i64 0, .int .i64 0]).setRow w9.heap.size #[.int .i64 6, .int .i64 0, .int .i64 0, .int .i64 0, .int .i64 0]).cell? ⟨b3, 9, none⟩ = some (.int .i64 0) := by rw [M15.out.swap.cel.cell]; rfl
    have g10 : (((w9.alloc (.cells #[.int .i64 0, .int .i64 0, .int .i64 0, .int .i64 0, .int .i64 0] 40)).setRow b3 #[.int .i64 4144, .int .i64 0, .int .i64 0, .int .i64 a, .int .i64 a, .int .i64 x3, .int .i64 a, .int .i64 (wrap64 (a * a)), .int .i64 0, .int .i64 0, .int .i64 1, .int .i64 0, .int .i64 0, .int .i64 0, .int .i64 0, .int .i64 0, .int .i64 0, .int .i64 0]).setRow w9.heap.size #[.int .i64 6, .int .i64 0, .int .i64 0, .int .i64 0, .int .i64 0]).cell? ⟨b3, 10, none⟩ = some (.int .i64 1) := by rw [M15.out.swap.cel.cell]; rfl
    go_wp2_with (first | (refine wpList_store_row rfl 37 _ _ rfl b3 #[.int .i64 4144, .int .i64 0, .int .i64 0, .int .i64 a, .int .i64 a, .int .i64 x3, .int .i64 a, .int .i64 (wrap64 (a * a)), .int .i64 0, .int .i64 0, .int .i64 1, .int .i64 0, .int .i64 0, .int .i64 0, .int .i64 0, .int .i64 0, .int .i64 0, .int .i64 0] rfl rfl 37 #[.int .i64 4096, .int .i64 0, .int .i64 0, .int .i64 a, .int .i64 a, .int .i64 0, .int .i64 0, .int .i64 0, .int .i64 0, .int .i64 0, .int .i64 0, .int .i64 0, .int .i64 0, .int .i64 0, .int .i64 0, .int .i64 0, .int .i64 0, .int .i64 0] M13.out.swap.cel (by kernel_rfl) rfl (by kernel_rfl) ?_) | (refine wpList_store_row rfl 40 _ _ rfl w9.heap.size #[.int .i64 6, .int .i64 0, .int .i64 0, .int .i64 0, .int .i64 0] rfl rfl 40 #[.int .i64 0, .int .i64 0, .int .i64 0, .int .i64 0, .int .i64 0] M14.out.cel (by kernel_rfl) rfl (by kernel_rfl) ?_))
    go_ret
    exact ⟨rfl, M15.out.bel⟩
  · have d1 : (if a < b then (1 : Int) else 0) = 0 := if_neg (by omega)
    have d2 : (if b < a then (1 : Int) else 0) = 1 := if_pos hgt
    have d3 : (if a = b then (1 : Int) else 0) = 0 := if_neg (by omega)
    have q1 : (a == b) = false := beq_eq_false_iff_ne.2 (by omega)
    have q2 : ¬ a < b := by omega
    rw [d1, d2, d3]
    have M14 := Lib.hid (M13.out.swap.setrow #[.int .i64 4144, .int .i64 0, .int .i64 0, .int .i64 a, .int .i64 b, .int .i64 x3, .int .i64 a, .int .i64 (wrap64 (a * b)), .int .i64 0, .int .i64 1, .int .i64 0, .int .i64 0, .int .i64 0, .int .i64 0, .int .i64 0, .int .i64 0, .int .i64 0, .int .i64 0]).swap
    have M15 := Lib.hid (M14.out.setrow #[.int .i64 6, .int .i64 0, .int .i64 0, .int .i64 0, .int .i64 0])
    have g0 : (((w9.alloc (.cells #[.int .i64 0, .int .i64 0, .int .i64 0, .int .i64 0, .int .i64 0] 40)).setRow b3 #[.int .i64 4144, .int .i64 0, .int .i64 0, .int .i64 a, .int .i64 b, .int .i64 x3, .int .i64 a, .int .i64 (wrap64 (a * b)), .int .i64 0, .int .i64 1, .int .i64 0, .int .i64 0, .int .i64 0, .int .i64 0, .int .i64 0, .int .i64 0, .int .i64 0, .int .i64 0]).setRow w9.heap.size #[.int .i64 6, .int .i64 0, .int .i64 0, .int .i64 0, .int .i64 0]).cell? ⟨w9.heap.size, 0, none⟩ = some (.int .i64 6) := by rw [M15.out.cel.cell]; rfl
    have g5 : (((w9.alloc (.cells #[.int .i64 0, .int .i64 0, .int .i64 0, .int .i64 0, .int .i64 0] 40)).setRow b3 #[.int .i64 4144, .int .i64 0, .int .i64 0, .int .i64 a, .int .i64 b, .int .i64 x3, .int .i64 a, .int .i64 (wrap64 (a * b)), .int .i64 0, .int .i64 1, .int .i64 0, .int .i64 0, .int .i64 0, .int .i64 0, .int .i64 0, .int .i64 0, .int .i64 0, .int .i64 0]).setRow w9.heap.size #[.int .i64 6, .int .i64 0, .int .i64 0, .int .i64 0, .int .i64 0]).cell? ⟨b3, 5, none⟩ = some (.int .i64 x3) := by rw [M15.out.swap.cel.cell]; rfl
    have g6 : (((w9.alloc (.cells #[.int .i64 0, .int .i64 0, .int .i64 0, .int .i64 0, .int .i64 0] 40)).setRow b3 #[.int .i64 4144, .int .i64 0, .int .i64 0, .int .i64 a, .int .i64 b, .int .i64 x3, .int .i64 a, .int .i64 (wrap64 (a * b)), .int .i64 0, .int .i64 1, .int .i64 0, .int .i64 0, .int .i64 0, .int .i64 0, .int .i64 0, .int .i64 0, .int .i64 0, .int .i64 0]).setRow w9.heap.size #[.int .i64 6, .int .i64 0, .int .i64 0, .int .i64 0, .int .i64 0]).cell? ⟨b3, 6, none⟩ = some (.int .i64 a) := by rw [M15.out.swap.cel.cell]; rfl
    have g7 : (((w9.alloc (.cells #[.int .i64 0, .int .i64 0, .int .i64 0, .int .i64 0, .int .i64 0] 40)).setRow b3 #[.int .i64 4144, .int .i64 0, .int .i64 0, .int .i64 a, .int .i64 b, .int .i64 x3, .int .i64 a, .int .i64 (wrap64 (a * b)), .int .i64 0, .int .i64 1, .int .i64 0, .int .i64 0, .int .i64 0, .int .i64 0, .int .i64 0, .int .i64 0, .int .i64 0, .int .i64 0]).setRow w9.heap.size #[.int .i64 6, .int .i64 0, .int .i64 0, .int .i64 0, .int .i64 0]).cell? ⟨b3, 7, none⟩ = some (.int .i64 (wrap64 (a * b))) := by rw [M15.out.swap.cel.cell]; rfl
    have g8 : (((w9.alloc (.cells #[.int .i64 0, .int .i64 0, .int .i64 0, .int .i64 0, .int .i64 0] 40)).setRow b3 #[.int .i64 4144, .int .i64 0, .int .i64 0, .int .i64 a, .int .i64 b, .int .i64 x3, .int .i64 a, .int .i64 (wrap64 (a * b)), .int .i64 0, .int .i64 1, .int .i64 0, .int .i64 0, .int .i64 0, .int .i64 0, .int .i64 0, .int .i64 0, .int .i64 0, .int .i64 0]).setRow w9.heap.size #[.int .i64 6, .int .i64 0, .int .i64 0, .int .i64 0, .int .i64 0]).cell? ⟨b3, 8, none⟩ = some (.int .i64 0) := by rw [M15.out.swap.cel.cell]; rfl
    have g9 : (((w9.alloc (.cells #[.int .i64 0, .int .i64 0, .int .i64 0, .int .i64 0, .int .i64 0] 40)).setRow b3 #[.int .i64 4144, .int .i64 0, .int .i64 0, .int .i64 a, .int .i64 b, .int .i64 x3, .int .i64 a, .int .i64 (wrap64 (a * b)), .int .i64 0, .int .i64 1, .int .i64 0, .int .i64 0, .int .i64 0, .int .i64 0, .int .i64 0, .int .i64 0, .int .i64 0, .int .i64 0]).setRow w9.heap.size #[.int .i64 6, .int .i64 0, .int .i64 0, .int .i64 0, .int .i64 0]).cell? ⟨b3, 9, none⟩ = some (.int .i64 1) := by rw [M15.out.swap.cel.cell]; rfl
    have g10 : (((w9.alloc (.cells #[.int .i64 0, .int .i64 0, .int .i64 0, .int .i64 0, .int .i64 0] 40)).setRow b3 #[.int .i64 4144, .int .i64 0, .int .i64 0, .int .i64 a, .int .i64 b, .int .i64 x3, .int .i64 a, .int .i64 (wrap64 (a * b)), .int .i64 0, .int .i64 1, .int .i64 0, .int .i64 0, .int .i64 0, .int .i64 0, .int .i64 0, .int .i64 0, .int .i64 0, .int .i64 0]).setRow w9.heap.size #[.int .i64 6, .int .i64 0, .int .i64 0, .int .i64 0, .int .i64 0]).cell? ⟨b3, 10, none⟩ = some (.int .i64 0) := by rw [M15.out.swap.cel.cell]; rfl
    go_wp2_with (first | (refine wpList_store_row rfl 37 _ _ rfl b3 #[.int .i64 4144, .int .i64 0, .int .i64 0, .int .i64 a, .int .i64 b, .int .i64 x3, .int .i64 a, .int .i64 (wrap64 (a * b)), .int .i64 0, .int .i64 1, .int .i64 0, .int .i64 0, .int .i64 0, .int .i64 0, .int .i64 0, .int .i64 0, .int .i64 0, .int .i64 0] rfl rfl 37 #[.int .i64 4096, .int .i64 0, .int .i64 0, .int .i64 a, .int .i64 b, .int .i64 0, .int .i64 0, .int .i64 0, .int .i64 0, .int .i64 0, .int .i64 0, .int .i64 0, .int .i64 0, .int .i64 0, .int .i64 0, .int .i64 0, .int .i64 0, .int .i64 0] M13.out.swap.cel (by kernel_rfl) rfl (by kernel_rfl) ?_) | (refine wpList_store_row rfl 40 _ _ rfl w9.heap.size #[.int .i64 6, .int .i64 0, .int .i64 0, .int .i64 0, .int .i64 0] rfl rfl 40 #[.int .i64 0, .int .i64 0, .int .i64 0, .int .i64 0, .int .i64 0] M14.out.cel (by kernel_rfl) rfl (by kernel_rfl) ?_))
    go_ret
    exact ⟨rfl, M15.out.bel⟩
end Go.Proofs.Ytkpaeogjefjbfaa
