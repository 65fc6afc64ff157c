/-
  Layer 4: whether an instruction may be: the document's May (its loop).
  Conditions: none. (My own text.)
-/
import Derived.Test.YtmbacegbcccdjaaDoorCdc
namespace Go.Proofs.YtmbacegbcccdjaaDoor
open Go.RowKit
set_option linter.unusedVariables false
set_option linter.unusedSimpArgs false

set_option maxRecDepth 100000 in
set_option maxHeartbeats 2000000 in
theorem rmay_any (i : Ins) (w : World) : Calls Tryd.prog 24 #[i.val] w fun e w' => e = .returned (.bool (mayS i)) ∧ Below w.heap.size w w' := by
  obtain ⟨R, hR⟩ : ∃ R : Bool, mayS i = R := ⟨_, rfl⟩
  rw [hR]
  have HRR := Lib.hid hR
  have HP := Lib.hid (fun k hk => ipart_any i k hk)
  have HBL : Hid (Below w.heap.size w (w.alloc (.cells i.cells.toArray 39))) := Lib.hid ((Below.refl _ _).alloc (Nat.le_refl _) _)
  have HIB : Hid (Blk (w.alloc (.cells i.cells.toArray 39)) w.heap.size 39 i.cells.toArray) := Lib.hid (Blk.new _ _ _)
  have HOP : Hid (∀ k, k < 4 → okL i k = false → R = false) := Lib.hid (fun k hk h => by rw [← hR]; exact may_not hk h)
  have HOK : Hid ((0 ≤ i.op ∧ i.op < 23) → (∀ k, k < 4 → okL i k = true) → R = true) := Lib.hid (fun h1 h2 => by rw [← hR]; exact may_of h1 h2)
  have HNO : Hid (¬ (0 ≤ i.op ∧ i.op < 23) → R = false) := Lib.hid (fun h1 => by rw [← hR]; exact may_op h1)
  have HFS := Lib.hid (form_size i.op)
  obtain ⟨op, a, b, c, n⟩ := i
  unfold Ins.val at HP ⊢
  unfold Ins.cells at HBL HIB
  simp only at HP HBL HIB HOK HNO HFS
  clear hR HRR
  go_enter Tryd.func24, Tryd.ntmps24
  have hcl : ∀ j u, (Ins.cells ⟨op, a, b, c, n⟩)[j]? = some u → (w.alloc (.cells #[.int .i64 op, .int .i64 a, .int .i64 b, .int .i64 c, .int .i64 n] 39)).cell? ⟨w.heap.size, j, none⟩ = some u := fun j u hu => by
    rw [World.cell?_alloc_at _ _ _ _ rfl]; simpa [Ins.cells] using hu
  have HCL := Lib.hid hcl
  clear hcl
  by_cases hop : 0 ≤ op ∧ op < 23
  · have hoo : opOk op = true := by unfold opOk; exact decide_eq_true hop
    have HT := Lib.hid (HOK.out hop)
    clear HNO HOK hop
    go_wp2_with fail
    refine (name_any _ _).mono ?_
    rintro e w1 ⟨rfl, hw1⟩
    rw [hw1] at HBL HIB HCL
    clear hw1
    rw [hoo]
    generalize w.heap.size = g at HIB HCL ⊢
    obtain ⟨fs, hfs⟩ : ∃ fs, formS op = fs := ⟨_, rfl⟩
    rw [hfs] at HFS ⊢
    have HFE := Lib.hid hfs
    clear hfs
    generalize nameS op = ns
    have HLT : Hid (∀ k, k < 4 → (w1.alloc (.cells #[.int .u8 97, .int .u8 98, .int .u8 99, .int .u8 110] 5)).cell? ⟨w1.heap.size, k, none⟩ = some (.int .u8 (ltr k))) := Lib.hid (fun k hk => by
      rw [World.cell?_alloc_at _ _ _ _ rfl]
      obtain rfl | rfl | rfl | rfl := ltr_cases hk <;> rfl)
    have HB1 : Hid (Below w1.heap.size w1 (w1.alloc (.cells #[.int .u8 97, .int .u8 98, .int .u8 99, .int .u8 110] 5))) := Lib.hid ((Below.refl _ _).alloc (Nat.le_refl _) _)
    obtain ⟨gl, hgl⟩ : ∃ gl, w1.heap.size = gl := ⟨_, rfl⟩
    obtain ⟨w2, hw2⟩ : ∃ w2, w1.alloc (.cells #[.int .u8 97, .int .u8 98, .int .u8 99, .int .u8 110] 5) = w2 := ⟨_, rfl⟩
    rw [hw2] at HLT HB1
    rw [hgl] at HLT
    go_wp2_with fail
    try simp only [hw2, hgl]
    clear hw2
    have HWB : Hid (Below w.heap.size w w2) := Lib.hid (HBL.out.trans (HB1.out.mono HBL.out.size))
    go_loopw [20] (fun j wr => ∃ k : Nat, k ≤ 4 ∧ j = .int .i64 k ∧ Below w2.heap.size w2 wr ∧ Hid (∀ t, t < k → okL ⟨op, a, b, c, n⟩ t = true)) (fun j _ => 4 - (intOf j).toNat)
    case atStart => exact ⟨0, by decide, rfl, Below.refl _ _, Lib.hid (fun t ht => absurd ht (Nat.not_lt_zero _))⟩
    case round =>
      obtain ⟨k, hk, rfl, hbel, hok⟩ := hrel
      by_cases hlt : k < 4
      · have e0 : wr.cell? ⟨gl, k, none⟩ = some (.int .u8 (ltr k)) := (hbel.cell (p := ⟨gl, k, none⟩) (block_lt_of_cell (HLT.out k hlt))).trans (HLT.out k hlt)
        have hgc : ∀ (j : Nat) (u : Value), (Ins.cells ⟨op, a, b, c, n⟩)[j]? = some u → wr.cell? ⟨g, j, none⟩ = some u := fun j u hu => ((HB1.out.trans (hbel.mono HB1.out.size)).cell (p := ⟨g, j, none⟩) (block_lt_of_cell (HCL.out j u hu))).trans (HCL.out j u hu)
        have d0 : wr.cell? ⟨g, 0, none⟩ = some (.int .i64 op) := hgc 0 _ rfl
        have d1 : wr.cell? ⟨g, 1, none⟩ = some (.int .i64 a) := hgc 1 _ rfl
        have d2 : wr.cell? ⟨g, 2, none⟩ = some (.int .i64 b) := hgc 2 _ rfl
        have d3 : wr.cell? ⟨g, 3, none⟩ = some (.int .i64 c) := hgc 3 _ rfl
        have d4 : wr.cell? ⟨g, 4, none⟩ = some (.int .i64 n) := hgc 4 _ rfl
        have HOL : Hid (okL ⟨op, a, b, c, n⟩ k = if hasL fs (ltr k) = true then rngS k (prt ⟨op, a, b, c, n⟩ k) else decide (prt ⟨op, a, b, c, n⟩ k = 0)) := Lib.hid (by rw [← HFE.out]; rfl)
        have C1 := Lib.hid (HP.out k hlt wr)
        have C2 := Lib.hid (stands_ltr fs HFS.out k hlt)
        have C3 := Lib.hid (ranged_ltr k hlt)
        have q2 : (0 : Int) ≤ (k : Int) := by omega
        have q3 : (k : Int) < 4 := by omega
        have HBW := Lib.hid hbel
        clear hgc hbel
        generalize prt ⟨op, a, b, c, n⟩ k = x at C1 HOL
        generalize ltr k = f at e0 C1 C2 C3 HOL
        generalize hasL fs f = hs at C2 HOL
        go_wp2_with fail
        refine (C1.out).mono ?_
        rintro e w3 ⟨rfl, hb3⟩
        have HBE : Hid (Below w2.heap.size w2 w3) := Lib.hid (HBW.out.trans (hb3.mono HBW.out.size))
        have HB3 : Hid (Below w.heap.size w w3) := Lib.hid (HWB.out.trans (HBE.out.mono HWB.out.size))
        clear hb3 d0 d1 d2 d3 d4 e0
        cases hs
        · go_wp2_with fail
          refine (C2.out _).mono ?_
          rintro e w4 ⟨rfl, rfl⟩
          go_wp2_with fail
          refine (C2.out _).mono ?_
          rintro e w4 ⟨rfl, rfl⟩
          by_cases hx : x = 0
          · have HK : Hid (∀ t, t < k + 1 → okL ⟨op, a, b, c, n⟩ t = true) := Lib.hid (fun t ht => by
              rcases Nat.lt_or_ge t k with h | h
              · exact hok.out t h
              · obtain rfl : t = k := by omega
                rw [HOL.out]; simp [hx])
            go_wp2
            go_roundw
            case rel => exact ⟨k + 1, by omega, by go_num, HBE.out, HK⟩
            case measure => simp [intOf]; omega
          · have HE : Hid (R = false) := Lib.hid (HOP.out k hlt (by rw [HOL.out]; simp [hx]))
            have HF : Hid (Below w.heap.size w w3) := Lib.hid HB3.out
            go_wp2
            go_ret
            exact ⟨by rw [HE.out]; rfl, HF.out⟩
        · go_wp2_with fail
          refine (C2.out _).mono ?_
          rintro e w4 ⟨rfl, rfl⟩
          have HR3 : Hid (okL ⟨op, a, b, c, n⟩ k = rngS k x) := Lib.hid (by rw [HOL.out]; simp)
          go_wp2_with fail
          refine (C3.out _ _).mono ?_
          rintro e w4 ⟨rfl, rfl⟩
          generalize rngS k x = rg at HR3 ⊢
          cases rg
          · have HE : Hid (R = false) := Lib.hid (HOP.out k hlt (HR3.out))
            have HF : Hid (Below w.heap.size w w3) := Lib.hid HB3.out
            go_wp2
            go_ret
            exact ⟨by rw [HE.out]; rfl, HF.out⟩
          · go_wp2_with fail
            refine (C2.out _).mono ?_
            rintro e w4 ⟨rfl, rfl⟩
            have HK : Hid (∀ t, t < k + 1 → okL ⟨op, a, b, c, n⟩ t = true) := Lib.hid (fun t ht => by
              rcases Nat.lt_or_ge t k with h | h
              · exact hok.out t h
              · obtain rfl : t = k := by omega
                exact HR3.out)
            go_wp2
            go_roundw
            case rel => exact ⟨k + 1, by omega, by go_num, HBE.out, HK⟩
            case measure => simp [intOf]; omega
      · obtain rfl : k = 4 := by omega
        have HE : Hid (R = true) := Lib.hid (HT.out hok.out)
        have HF : Hid (Below w.heap.size w wr) := Lib.hid (HWB.out.trans (hbel.mono HWB.out.size))
        go_wp2
        go_ret
        exact ⟨by rw [HE.out]; rfl, HF.out⟩
  · have hoo : opOk op = false := by unfold opOk; exact decide_eq_false hop
    have HE := Lib.hid (HNO.out hop)
    clear HNO HOK hop
    go_wp2_with fail
    refine (name_any _ _).mono ?_
    rintro e w1 ⟨rfl, hw1⟩
    rw [hw1] at HBL
    clear hw1
    rw [hoo]
    go_wp2
    go_ret
    exact ⟨by rw [HE.out]; rfl, HBL.out⟩
end Go.Proofs.YtmbacegbcccdjaaDoor
