/-
  Layer 9: the document's test of what runs: it answers something.
  Conditions: none. (My own text.)
-/
import Derived.Test.YtlkelfaokbdddaaImi
import Derived.Test.YtlkelfaokbdddaaImv
namespace Go.Proofs.Ytlkelfaokbdddaa
open Go.RowKit Spm
set_option linter.unusedVariables false
set_option linter.unusedSimpArgs false

set_option maxRecDepth 100000 in
set_option maxHeartbeats 4000000 in
theorem runs09_any (d : ImgD) (P : Nat → Prop) (w : World) (h : ImgOk w P d) : Calls Try.prog 33 #[.agg (imgD d)] w (BoolE w) := by
  have HOK := Lib.hid (fun (wr : World) (hb : Below w.heap.size w wr) => h.stay hb)
  clear h
  rw [show imgD d = #[.string d.nm, .int .i64 d.fl, .slice d.sA d.sl.length d.sC, .slice d.nA d.nd.length d.nC, .slice d.rA d.rp.length d.rC, .slice d.yA d.sy.length d.yC, .slice d.bA d.bk.length d.bC, .slice d.wA d.wd.length d.wC, .int .i64 d.sh, .slice d.lA d.rl.length d.lC, .slice d.tA d.st.length d.tC, .slice d.iA d.ini.length d.iC, .slice d.fA d.fin.length d.fC, .slice d.xA d.xn d.xC, .int .i64 d.tz] from rfl]
  have M0 := Lib.hid ((Has.start (Below.refl w.heap.size w) (Nat.le_refl _)).newcel 39 #[.string d.nm, .int .i64 d.fl, .slice d.sA d.sl.length d.sC, .slice d.nA d.nd.length d.nC, .slice d.rA d.rp.length d.rC, .slice d.yA d.sy.length d.yC, .slice d.bA d.bk.length d.bC, .slice d.wA d.wd.length d.wC, .int .i64 d.sh, .slice d.lA d.rl.length d.lC, .slice d.tA d.st.length d.tC, .slice d.iA d.ini.length d.iC, .slice d.fA d.fin.length d.fC, .slice d.xA d.xn d.xC, .int .i64 d.tz])
  go_enter Try.func33, Try.ntmps33
  go_upto_region 1 with (fail)
  obtain ⟨W, hW⟩ : ∃ W, (w.alloc (.cells #[.string d.nm, .int .i64 d.fl, .slice d.sA d.sl.length d.sC, .slice d.nA d.nd.length d.nC, .slice d.rA d.rp.length d.rC, .slice d.yA d.sy.length d.yC, .slice d.bA d.bk.length d.bC, .slice d.wA d.wd.length d.wC, .int .i64 d.sh, .slice d.lA d.rl.length d.lC, .slice d.tA d.st.length d.tC, .slice d.iA d.ini.length d.iC, .slice d.fA d.fin.length d.fC, .slice d.xA d.xn d.xC, .int .i64 d.tz] 39)) = W := ⟨_, rfl⟩
  rw [hW] at M0 ⊢
  clear hW
  generalize hB : w.heap.size = b0 at M0 HOK ⊢
  have HB := Lib.hid hB
  clear hB
  have M1 : Hid (Has b0 w W (Star (Cel b0 39 (imgD d)) Emp)) := M0
  clear M0
  have i11 : W.cell? ⟨b0, 11, none⟩ = some (.slice d.iA d.ini.length d.iC) := M1.out.cellat b0 11 rfl
  have i12 : W.cell? ⟨b0, 12, none⟩ = some (.slice d.fA d.fin.length d.fC) := M1.out.cellat b0 12 rfl
  have Nq := Lib.hid (M1.out.newcel 36 #[.slice d.iA d.ini.length d.iC, .slice d.fA d.fin.length d.fC])
  go_upto_region 2 with (fail)
  obtain ⟨W2, hW2⟩ : ∃ W2, (W.alloc (.cells #[.slice d.iA d.ini.length d.iC, .slice d.fA d.fin.length d.fC] 36)) = W2 := ⟨_, rfl⟩
  rw [hW2] at Nq ⊢
  clear hW2 i11 i12 M1
  generalize W.heap.size = q at Nq ⊢
  go_loopw [12] (fun i wr => ∃ k : Nat, k ≤ 2 ∧ i = .int .i64 k ∧ Hid (Has b0 w wr (Star (Cel q 36 #[.slice d.iA d.ini.length d.iC, .slice d.fA d.fin.length d.fC]) (Star (Cel b0 39 (imgD d)) Emp)))) (fun i _ => 2 - (intOf i).toNat)
  case atStart => exact ⟨0, Nat.zero_le _, rfl, Nq⟩
  case round =>
    clear Nq
    obtain ⟨k, hk, rfl, M2⟩ := hrel
    obtain ⟨w2, hw2⟩ : ∃ w2, w2 = wr := ⟨_, rfl⟩
    rw [← hw2] at M2 ⊢
    clear hw2
    by_cases hkn : k < 2
    · have HL : ∃ A l c, w2.cell? ⟨q, k, none⟩ = some (.slice A l.length c) ∧ ∀ wr : World, Below b0 w wr → RowsAt 1 intC wr P (.slice A l.length c) l := by
        match k, hkn with
        | 0, _ => exact ⟨d.iA, d.ini, d.iC, M2.out.cellat q 0 rfl, fun wr hb => (HOK.out wr hb).ini⟩
        | 1, _ => exact ⟨d.fA, d.fin, d.fC, M2.out.cellat q 1 rfl, fun wr hb => (HOK.out wr hb).fin⟩
      obtain ⟨A, l, c, hq, hrows⟩ := HL
      have HROWS := Lib.hid hrows
      have hll := (hrows w2 M2.out.bel).len
      unfold maxLen at hll
      clear hrows
      have MZ := Lib.hid M2.out.bel
      by_cases hv : (8 : Int) < (l.length : Int)
      · go_wp2
        (go_ret; exact ⟨⟨_, rfl⟩, by rw [HB.out]; exact MZ.out⟩)
      · clear MZ
        go_wp2_with fail
        go_loopw [5] (fun j wr => ∃ k2 : Nat, k2 ≤ l.length ∧ j = .int .i64 k2 ∧ Hid (Has b0 w wr (Star (Cel q 36 #[.slice d.iA d.ini.length d.iC, .slice d.fA d.fin.length d.fC]) (Star (Cel b0 39 (imgD d)) Emp)))) (fun j _ => l.length - (intOf j).toNat)
        case atStart => exact ⟨0, Nat.zero_le _, rfl, M2⟩
        case round =>
          clear hq M2
          obtain ⟨k2, hk2, rfl, M3⟩ := hrel
          obtain ⟨w3, hw3⟩ : ∃ w3, w3 = wr := ⟨_, rfl⟩
          rw [← hw3] at M3 ⊢
          clear hw3
          by_cases hk2n : k2 < l.length
          · obtain ⟨y, hy⟩ : ∃ y, l[k2]? = some y := ⟨_, List.getElem?_eq_getElem hk2n⟩
            have M4 := Lib.hid (M3.out.stay (Below.refl _ _).drew)
            obtain ⟨b, off, rfl, hcell⟩ := (HROWS.out _ M4.out.bel).elem k2 y hy
            have c0 : w3.drew.cell? ⟨b, off + k2 * 1, none⟩ = some (.int .i64 y) := hcell 0 _ rfl
            clear hcell hy
            go_upto_region 9 with (fail)
            refine wp_region_noPanic ?_
            refine wp_region_held_drew (S := SB w3.drew) (by kernel_rfl) (Below.refl _ _) ?_
            intro hS
            refine takeD (i := 0) 25 rfl (by kernel_rfl) (by kernel_rfl) (by kernel_rfl) (by kernel_rfl) (fun _ _ _ h => h) (yS_row (by kernel_rfl) 39 _ rfl b0 (by kernel_rfl) 39 (imgD d) _ (M4.out.getc b0) Try.underlying39 rfl (by kernel_rfl)) hS ?_
            refine takeD (i := 1) (v := .slice (some ⟨b, off, none⟩) l.length c) 26 rfl (by kernel_rfl) (by kernel_rfl) (by kernel_rfl) (by kernel_rfl) (fun _ _ _ h => h) (yS_pure (by kernel_rfl) (fun w => by kernel_rfl)) hS ?_
            refine takeD (i := 2) (v := .int .i64 k2) 27 rfl (by kernel_rfl) (by kernel_rfl) (by kernel_rfl) (by kernel_rfl) (fun _ _ _ h => h) (yS_pure (by kernel_rfl) (fun w => by kernel_rfl)) hS ?_
            refine takeD (i := 3) 28 rfl (by kernel_rfl) (by kernel_rfl) (by kernel_rfl) (by kernel_rfl) (fun _ _ _ h => h) (yS_sl (by kernel_rfl) _ _ rfl b (off) l.length c k2 1 (by kernel_rfl) (by kernel_rfl) Try.underlying36 (by kernel_rfl) hk2n) hS ?_
            refine takeD (i := 4) 29 rfl (by kernel_rfl) (by kernel_rfl) (by kernel_rfl) (by kernel_rfl) (fun _ _ _ h => h) (yS_cell (by kernel_rfl) 3 _ rfl b (off + k2 * 1) (by kernel_rfl) (.int .i64 y) c0 _ Try.underlying3 rfl) hS ?_
            refine callD (i := 5) 30 (by kernel_rfl) rfl (by kernel_rfl) (by kernel_rfl) _ _ _ rfl _ (by kernel_rfl) ((stands_any d.img d.segs d.sl P y 8 4 _ (HOK.out _ (M4.out.bel.trans (hS.mono M4.out.le))).segs).mono ?_)
            rintro e X1 ⟨⟨b1, rfl⟩, hb1⟩
            have hS1 : SB w3.drew X1 := hS.trans (hb1.mono hS.size)
            clear hb1
            refine ⟨_, rfl, hS1, ?_⟩
            clear hS
            have hS := hS1
            clear hS1
            refine takeD (i := 6) (v := .bool (!b1)) 31 rfl (by kernel_rfl) (by kernel_rfl) (by kernel_rfl) (by kernel_rfl) (fun _ _ _ h => h) (yS_pure (by kernel_rfl) (fun w => by kernel_rfl)) hS ?_
            refine wpAnyH_done (by kernel_rfl) ?_ _
            refine NoPanic.normal ?_
            simp only [Act.put, List.setIfInBounds_toArray, List.set_cons_succ, List.set_cons_zero]
            have M5 := Lib.hid (M4.out.stay hS)
            have MZ := Lib.hid M5.out.bel
            clear hS c0 M4 M3
            cases b1
            · go_wp2
              (go_ret; exact ⟨⟨_, rfl⟩, by rw [HB.out]; exact MZ.out⟩)
            · clear MZ
              go_wp2_with fail
              go_roundw
              case rel => exact ⟨k2 + 1, by omega, by go_num, M5⟩
              case measure => simp [intOf]; omega
          · go_wp2_with fail
            go_roundw
            case rel => exact ⟨k + 1, by omega, by go_num, M3⟩
            case measure => simp [intOf]; omega
    · have MZ := Lib.hid M2.out.bel
      go_wp2
      (go_ret; exact ⟨⟨_, rfl⟩, by rw [HB.out]; exact MZ.out⟩)
end Go.Proofs.Ytlkelfaokbdddaa
