/-
  Layer 4: whether an instruction may be: the program's May.
  Conditions: none. (My own text.)
-/
import Derived.Test.YtmbacegbcccdjaaDoorCda
import Derived.Lib.SlBytesConst
namespace Go.Proofs.YtmbacegbcccdjaaDoor
open Go.RowKit
set_option linter.unusedVariables false
set_option linter.unusedSimpArgs false

theorem low_high (k : Nat) : lowS k ≤ 0 ∧ 0 ≤ highS k := by unfold lowS highS; split <;> simp

set_option maxRecDepth 100000 in
set_option maxHeartbeats 2000000 in
theorem may_any (i : Ins) (w : World) : Calls Tryd.prog 23 #[i.val] w fun e w' => e = .returned (.int .i64 (if mayS i = true then 0 else 40)) ∧ Below w.heap.size w w' := by
  obtain ⟨R, hR⟩ : ∃ R : Int, (if mayS i = true then 0 else 40) = R := ⟨_, rfl⟩
  rw [hR]
  obtain ⟨op, a, b, c, n⟩ := i
  have HRR := Lib.hid hR
  clear hR
  unfold Ins.val
  have hcl : ∀ j u, (Ins.cells ⟨op, a, b, c, n⟩)[j]? = some u → (w.alloc (.cells #[.int .i64 op, .int .i64 a, .int .i64 b, .int .i64 c, .int .i64 n] 39)).cell? ⟨w.heap.size, j, none⟩ = some u := fun j u hu => by
    rw [World.cell?_alloc_at _ _ _ _ rfl]; simpa [Ins.cells] using hu
  have HCL := Lib.hid hcl
  have HBL : Hid (Below w.heap.size w (w.alloc (.cells #[.int .i64 op, .int .i64 a, .int .i64 b, .int .i64 c, .int .i64 n] 39))) := Lib.hid ((Below.refl _ _).alloc (Nat.le_refl _) _)
  clear hcl
  go_enter Tryd.func23, Tryd.ntmps23
  go_wp2_with fail
  refine (shapes_any _).mono ?_
  rintro e w1 ⟨rfl, h1, h2⟩
  have H1 := Lib.hid h1
  have H2 : Hid (Below w.heap.size w w1) := Lib.hid (HBL.out.trans (h2.mono HBL.out.size))
  have HC1 : Hid (∀ j u, (Ins.cells ⟨op, a, b, c, n⟩)[j]? = some u → w1.cell? ⟨w.heap.size, j, none⟩ = some u) := Lib.hid (fun j u hu => (h2.cell (p := ⟨w.heap.size, j, none⟩) (by simp)).trans (HCL.out j u hu))
  clear h1 h2 HBL HCL
  generalize (w.alloc (.cells #[.int .i64 op, .int .i64 a, .int .i64 b, .int .i64 c, .int .i64 n] 39)).heap.size = gs at H1 ⊢
  obtain ⟨g, hg⟩ : ∃ g, w.heap.size = g := ⟨_, rfl⟩
  rw [hg] at HC1
  simp only [hg]
  have HG := Lib.hid hg; clear hg
  have c0 : w1.cell? ⟨g, 0, none⟩ = some (.int .i64 op) := HC1.out 0 _ rfl
  by_cases h0 : op < 0
  · have he := may_op (i := ⟨op, a, b, c, n⟩) (by simp only; omega)
    have HE : Hid (R = 40) := Lib.hid (by rw [← HRR.out, he]; rfl)
    clear he HC1 H1
    go_wp2
    go_ret
    exact ⟨by rw [HE.out]; rfl, H2.out⟩
  by_cases h23 : 23 ≤ op
  · have he := may_op (i := ⟨op, a, b, c, n⟩) (by simp only; omega)
    have HE : Hid (R = 40) := Lib.hid (by rw [← HRR.out, he]; rfl)
    clear he HC1 H1
    go_wp2
    go_ret
    exact ⟨by rw [HE.out]; rfl, H2.out⟩
  obtain ⟨m, rfl⟩ : ∃ m : Nat, op = m := ⟨op.toNat, by omega⟩
  have hm : m < 23 := by omega
  have HFM := Lib.hid (shA_form m hm)
  have q0 : (0 : Int) ≤ (m : Int) := by omega
  have q1 : (m : Int) < 23 := by omega
  clear h0 h23
  have kc := fun (w : World) (C : Array Value) (n c : Nat) => Lib.run_convert_bytes_const (P := Tryd.prog) w 31 5 C n c Tryd.underlying31 Tryd.underlying5
  have HW : Hid (∀ W : World, Below w1.heap.size w1 W → W.cell? ⟨g, 0, none⟩ = some (.int .i64 m) ∧ (∀ k, k < 4 → W.cell? ⟨g, 1 + k, none⟩ = some (.int .i64 (prt ⟨m, a, b, c, n⟩ k))) ∧ W.cell? ⟨gs, m * 2 + 1, none⟩ = some (.string (formS m))) := Lib.hid (fun W hb => by
    refine ⟨(hb.cell (p := ⟨g, 0, none⟩) (block_lt_of_cell c0)).trans c0, fun k hk => ?_, (hb.cell (p := ⟨gs, m * 2 + 1, none⟩) H1.out.lt).trans ((H1.out.cell _).trans HFM.out)⟩
    refine (hb.cell (p := ⟨g, 1 + k, none⟩) (show g < w1.heap.size from block_lt_of_cell c0)).trans (HC1.out (1 + k) _ ?_)
    obtain rfl | rfl | rfl | rfl := ltr_cases hk <;> rfl)
  clear HC1 HFM
  go_wp2_with fail
  obtain ⟨gl, hgl⟩ : ∃ gl, w1.heap.size = gl := ⟨_, rfl⟩
  have HLT : Hid (∀ k, k < 4 → (w1.alloc (.cells #[.int .u8 97, .int .u8 98, .int .u8 99, .int .u8 110] 5 (4, 5))).cell? ⟨gl, k, none⟩ = some (.int .u8 (ltr k))) := Lib.hid (fun k hk => by
    rw [← hgl, cell_of_row _ _ _ _ _ _ (heap_alloc_new _ _)]
    obtain rfl | rfl | rfl | rfl := ltr_cases hk <;> rfl)
  have HB1 : Hid (Below w1.heap.size w1 (w1.alloc (.cells #[.int .u8 97, .int .u8 98, .int .u8 99, .int .u8 110] 5 (4, 5)))) := Lib.hid ((Below.refl _ _).alloc (Nat.le_refl _) _)
  obtain ⟨w2, hw2⟩ : ∃ w2, w1.alloc (.cells #[.int .u8 97, .int .u8 98, .int .u8 99, .int .u8 110] 5 (4, 5)) = w2 := ⟨_, rfl⟩
  rw [hw2] at HLT HB1
  simp only [hw2, hgl]
  clear hw2 kc
  go_loopw [23] (fun j wr => ∃ k : Nat, k ≤ 4 ∧ j = .int .i64 k ∧ Below w2.heap.size w2 wr ∧ Hid (∀ t, t < k → okL ⟨m, a, b, c, n⟩ t = true)) (fun j _ => 4 - (intOf j).toNat)
  case atStart => exact ⟨0, by decide, rfl, Below.refl _ _, Lib.hid (fun t ht => absurd ht (Nat.not_lt_zero _))⟩
  case round =>
    obtain ⟨k, hk, rfl, hbel, hok⟩ := hrel
    by_cases hlt : k < 4
    · obtain ⟨d0, d1, d2⟩ := HW.out wr (HB1.out.trans (hbel.mono HB1.out.size))
      have e0 : wr.cell? ⟨gl, k, none⟩ = some (.int .u8 (ltr k)) := (hbel.cell (p := ⟨gl, k, none⟩) (block_lt_of_cell (HLT.out k hlt))).trans (HLT.out k hlt)
      have e1 := d1 k hlt
      have HOL : Hid (okL ⟨m, a, b, c, n⟩ k = _) := Lib.hid (by unfold okL; rfl)
      have hlh := low_high k
      have C1 := Lib.hid (field_any g k hlt)
      have C2 := Lib.hid (most_any k hlt)
      have q2 : (0 : Int) ≤ (k : Int) := by omega
      have q3 : (k : Int) < 4 := by omega
      have HNO := Lib.hid (fun h => may_not (i := ⟨m, a, b, c, n⟩) hlt h)
      have HBE := Lib.hid hbel
      clear d1 hbel
      simp only [] at HOL
      generalize prt ⟨m, a, b, c, n⟩ k = x at e1 HOL
      generalize ltr k = f at e0 C1 C2 HOL
      generalize lowS k = lo at C2 HOL hlh
      generalize highS k = hi at C2 HOL hlh
      obtain ⟨hlo, hhi⟩ := hlh
      go_wp2_with fail
      refine (C1.out _).mono ?_
      rintro e w3 ⟨rfl, rfl⟩
      go_wp2_with fail
      refine (C2.out _).mono ?_
      rintro e w3 ⟨rfl, rfl⟩
      go_wp2_with fail
      refine (cIndexByte_any _ _ _).mono ?_
      rintro e w3 ⟨rfl, rfl⟩
      unfold hasL at HOL
      generalize Lib.indexByte (formS m).data.toList f.toNat.toUInt8 = ix at HOL ⊢
      by_cases hix : ix < 0
      · by_cases hx0 : x = 0
        · have HK : Hid (∀ t, t < k + 1 → okL ⟨m, a, b, c, n⟩ t = true) := Lib.hid (fun t ht => by
            rcases Nat.lt_or_ge t k with h | h
            · exact hok.out t h
            · obtain rfl : t = k := by omega
              rw [HOL.out]; rw [if_neg (by simp; omega)]; simp [hx0])
          go_wp2
          go_roundw
          case rel => exact ⟨k + 1, by omega, by go_num, HBE.out, HK⟩
          case measure => simp [intOf]; omega
        · have HE : Hid (R = 40) := Lib.hid (by rw [← HRR.out, HNO.out (by rw [HOL.out]; rw [if_neg (by simp; omega)]; simp [hx0])]; rfl)
          have HF : Hid (Below w.heap.size w wr) := Lib.hid (H2.out.trans ((HB1.out.trans (HBE.out.mono HB1.out.size)).mono H2.out.size))
          go_wp2
          go_ret
          exact ⟨by rw [HE.out]; rfl, HF.out⟩
      · by_cases hxl : x < lo
        · have HE : Hid (R = 40) := Lib.hid (by rw [← HRR.out, HNO.out (by rw [HOL.out]; rw [if_pos (by simp; omega)]; simp; omega)]; rfl)
          have HF : Hid (Below w.heap.size w wr) := Lib.hid (H2.out.trans ((HB1.out.trans (HBE.out.mono HB1.out.size)).mono H2.out.size))
          go_wp2
          go_ret
          exact ⟨by rw [HE.out]; rfl, HF.out⟩
        · by_cases hxh : hi < x
          · have HE : Hid (R = 40) := Lib.hid (by rw [← HRR.out, HNO.out (by rw [HOL.out]; rw [if_pos (by simp; omega)]; simp; omega)]; rfl)
            have HF : Hid (Below w.heap.size w wr) := Lib.hid (H2.out.trans ((HB1.out.trans (HBE.out.mono HB1.out.size)).mono H2.out.size))
            go_wp2
            go_ret
            exact ⟨by rw [HE.out]; rfl, HF.out⟩
          · have HK : Hid (∀ t, t < k + 1 → okL ⟨m, a, b, c, n⟩ t = true) := Lib.hid (fun t ht => by
              rcases Nat.lt_or_ge t k with h | h
              · exact hok.out t h
              · obtain rfl : t = k := by omega
                rw [HOL.out]; rw [if_pos (by simp; omega)]; simp; omega)
            go_wp2
            go_roundw
            case rel => exact ⟨k + 1, by omega, by go_num, HBE.out, HK⟩
            case measure => simp [intOf]; omega
    · obtain rfl : k = 4 := by omega
      have HE : Hid (R = 0) := Lib.hid (by rw [← HRR.out, may_of (i := ⟨m, a, b, c, n⟩) ⟨by simp only; omega, by simp only; omega⟩ hok.out]; rfl)
      have HF : Hid (Below w.heap.size w wr) := Lib.hid (H2.out.trans ((HB1.out.trans (hbel.mono HB1.out.size)).mono H2.out.size))
      go_wp2
      go_ret
      exact ⟨by rw [HE.out]; rfl, HF.out⟩
end Go.Proofs.YtmbacegbcccdjaaDoor
