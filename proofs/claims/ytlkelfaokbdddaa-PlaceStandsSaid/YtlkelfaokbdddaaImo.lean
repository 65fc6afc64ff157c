/-
  Layer 9: the document's test of relocations: it answers something.
  Conditions: none. (My own text.)
-/
import Derived.Test.YtlkelfaokbdddaaImf
namespace Go.Proofs.Ytlkelfaokbdddaa
open Go.RowKit Spm
set_option linter.unusedVariables false
set_option linter.unusedSimpArgs false

set_option maxRecDepth 100000 in
set_option maxHeartbeats 4000000 in
theorem relocs09_any (d : ImgD) (P : Nat → Prop) (w : World) (h : ImgOk w P d) : Calls Try.prog 31 #[.agg (imgD d)] w (BoolE w) := by
  have HOK := Lib.hid (fun (wr : World) (hb : Below w.heap.size w wr) => h.stay hb)
  clear h
  rw [show imgD d = #[.string d.nm, .int .i64 d.fl, .slice d.sA d.sl.length d.sC, .slice d.nA d.nd.length d.nC, .slice d.rA d.rp.length d.rC, .slice d.yA d.sy.length d.yC, .slice d.bA d.bk.length d.bC, .slice d.wA d.wd.length d.wC, .int .i64 d.sh, .slice d.lA d.rl.length d.lC, .slice d.tA d.st.length d.tC, .slice d.iA d.ini.length d.iC, .slice d.fA d.fin.length d.fC, .slice d.xA d.xn d.xC, .int .i64 d.tz] from rfl]
  have M0 := Lib.hid ((Has.start (Below.refl w.heap.size w) (Nat.le_refl _)).newcel 39 #[.string d.nm, .int .i64 d.fl, .slice d.sA d.sl.length d.sC, .slice d.nA d.nd.length d.nC, .slice d.rA d.rp.length d.rC, .slice d.yA d.sy.length d.yC, .slice d.bA d.bk.length d.bC, .slice d.wA d.wd.length d.wC, .int .i64 d.sh, .slice d.lA d.rl.length d.lC, .slice d.tA d.st.length d.tC, .slice d.iA d.ini.length d.iC, .slice d.fA d.fin.length d.fC, .slice d.xA d.xn d.xC, .int .i64 d.tz])
  go_enter Try.func31, Try.ntmps31
  go_upto_region 1 with (fail)
  obtain ⟨W, hW⟩ : ∃ W, (w.alloc (.cells #[.string d.nm, .int .i64 d.fl, .slice d.sA d.sl.length d.sC, .slice d.nA d.nd.length d.nC, .slice d.rA d.rp.length d.rC, .slice d.yA d.sy.length d.yC, .slice d.bA d.bk.length d.bC, .slice d.wA d.wd.length d.wC, .int .i64 d.sh, .slice d.lA d.rl.length d.lC, .slice d.tA d.st.length d.tC, .slice d.iA d.ini.length d.iC, .slice d.fA d.fin.length d.fC, .slice d.xA d.xn d.xC, .int .i64 d.tz] 39)) = W := ⟨_, rfl⟩
  rw [hW] at M0 ⊢
  clear hW
  generalize hB : w.heap.size = b0 at M0 HOK ⊢
  have HB := Lib.hid hB
  clear hB
  have M1 : Hid (Has b0 w W (Star (Cel b0 39 (imgD d)) Emp)) := M0
  clear M0
  have i9 : W.cell? ⟨b0, 9, none⟩ = some (.slice d.lA d.rl.length d.lC) := M1.out.cellat b0 9 rfl
  have hll := (HOK.out W M1.out.bel).rls.len
  unfold maxLen at hll
  have MZ := Lib.hid M1.out.bel
  by_cases hv : (512 : Int) < (d.rl.length : Int)
  · go_wp2
    (go_ret; exact ⟨⟨_, rfl⟩, by rw [HB.out]; exact MZ.out⟩)
  clear MZ
  go_wp2_with fail
  go_loopw [3] (fun i wr => ∃ k : Nat, k ≤ d.rl.length ∧ i = .int .i64 k ∧ Hid (Has b0 w wr (Star (Cel b0 39 (imgD d)) Emp))) (fun i _ => d.rl.length - (intOf i).toNat)
  case atStart => exact ⟨0, Nat.zero_le _, rfl, M1⟩
  case round =>
    clear i9 M1
    obtain ⟨k, hk, rfl, M3⟩ := hrel
    obtain ⟨w3, hw3⟩ : ∃ w3, w3 = wr := ⟨_, rfl⟩
    rw [← hw3] at M3 ⊢
    clear hw3
    have i9 : w3.cell? ⟨b0, 9, none⟩ = some (.slice d.lA d.rl.length d.lC) := M3.out.cellat b0 9 rfl
    by_cases hkn : k < d.rl.length
    · obtain ⟨r, hr⟩ : ∃ r, d.rl[k]? = some r := ⟨_, List.getElem?_eq_getElem hkn⟩
      have HR := Lib.hid hr
      have M4 := Lib.hid (M3.out.stay (Below.refl _ _).drew)
      obtain ⟨b, off, hA, hcell⟩ := (HOK.out _ M4.out.bel).rls.elem k r hr
      have HA := Lib.hid hA
      have c0 : w3.drew.cell? ⟨b0, 9, none⟩ = some (.slice (some ⟨b, off, none⟩) d.rl.length d.lC) := M4.out.cellat b0 9 (by rw [← hA]; rfl)
      have cel : ∀ j v, (rlA r).toList[j]? = some v → w3.drew.cell? ⟨b, off + k * 4 + j, none⟩ = some v := fun j v hv => hcell j v hv
      clear hcell hr hA
      go_upto_region 6 with (fail)
      refine wp_region_noPanic ?_
      refine wp_region_held_drew (S := SB w3.drew) (by kernel_rfl) (Below.refl _ _) ?_
      intro hS
      refine takeD (i := 0) 15 rfl (by kernel_rfl) (by kernel_rfl) (by kernel_rfl) (by kernel_rfl) (fun _ _ _ h => h) (yS_row (by kernel_rfl) 39 _ rfl b0 (by kernel_rfl) 39 (imgD d) _ (M4.out.getc b0) Try.underlying39 rfl (by kernel_rfl)) hS ?_
      refine takeD (i := 1) (v := .pointer (some ⟨b0, 9, none⟩)) 16 rfl (by kernel_rfl) (by kernel_rfl) (by kernel_rfl) (by kernel_rfl) (fun _ _ _ h => h) (yS_pure (by kernel_rfl) (fun w => by kernel_rfl)) hS ?_
      refine takeD (i := 2) 17 rfl (by kernel_rfl) (by kernel_rfl) (by kernel_rfl) (by kernel_rfl) (fun _ _ _ h => h) (yS_cell (by kernel_rfl) 34 _ rfl b0 (9) (by kernel_rfl) (.slice (some ⟨b, off, none⟩) d.rl.length d.lC) c0 _ Try.underlying34 rfl) hS ?_
      refine takeD (i := 3) (v := .int .i64 k) 18 rfl (by kernel_rfl) (by kernel_rfl) (by kernel_rfl) (by kernel_rfl) (fun _ _ _ h => h) (yS_pure (by kernel_rfl) (fun w => by kernel_rfl)) hS ?_
      refine takeD (i := 4) 19 rfl (by kernel_rfl) (by kernel_rfl) (by kernel_rfl) (by kernel_rfl) (fun _ _ _ h => h) (yS_sl (by kernel_rfl) _ _ rfl b (off) d.rl.length d.lC k 4 (by kernel_rfl) (by kernel_rfl) Try.underlying34 (by kernel_rfl) hkn) hS ?_
      refine takeD (i := 5) 20 rfl (by kernel_rfl) (by kernel_rfl) (by kernel_rfl) (by kernel_rfl) (fun _ _ _ h => h) (yS_part (by kernel_rfl) 116 _ rfl b (off + k * 4) (by kernel_rfl) (rlA r) _ cel Try.underlying116 rfl (by kernel_rfl)) hS ?_
      refine callD (i := 6) 21 (by kernel_rfl) rfl (by kernel_rfl) (by kernel_rfl) _ _ _ rfl _ (by kernel_rfl) ((fits09_any d P _ (HOK.out _ (M4.out.bel.trans (hS.mono M4.out.le))) r).mono ?_)
      rintro e X1 ⟨⟨b1, rfl⟩, hb1⟩
      have hS1 : SB w3.drew X1 := hS.trans (hb1.mono hS.size)
      clear hb1
      refine ⟨_, rfl, hS1, ?_⟩
      clear hS
      have hS := hS1
      clear hS1
      refine takeD (i := 7) (v := .bool (!b1)) 22 rfl (by kernel_rfl) (by kernel_rfl) (by kernel_rfl) (by kernel_rfl) (fun _ _ _ h => h) (yS_pure (by kernel_rfl) (fun w => by kernel_rfl)) hS ?_
      refine wpAnyH_done (by kernel_rfl) ?_ _
      refine NoPanic.normal ?_
      simp only [Act.put, List.setIfInBounds_toArray, List.set_cons_succ, List.set_cons_zero]
      have M5 := Lib.hid (M4.out.stay hS)
      have MZ := Lib.hid M5.out.bel
      clear hS c0 cel i9 M4 M3
      cases b1
      · go_wp2
        (go_ret; exact ⟨⟨_, rfl⟩, by rw [HB.out]; exact MZ.out⟩)
      clear MZ
      rcases Nat.eq_zero_or_pos k with hk0 | hk0
      · subst hk0
        have hgt : decide ((0 : Int) < (((0 : Nat) : Int))) = false := by decide
        go_upto_region 8 with (fail)
        go_quiet (fail)
        rename_i nq
        have M6 := Lib.hid (M5.out.stay (below_drewN (Below.refl _ _) nq))
        clear M5
        go_wp2_with fail
        go_roundw
        case rel => exact ⟨1, by omega, by first | rfl | go_num, M6⟩
        case measure => simp [intOf]; omega
      · obtain ⟨k, rfl⟩ : ∃ k', k = k' + 1 := ⟨k - 1, by omega⟩
        clear hk0
        have hkl : k < d.rl.length := by omega
        obtain ⟨t, ht⟩ : ∃ t, d.rl[k]? = some t := ⟨_, List.getElem?_eq_getElem hkl⟩
        obtain ⟨w5, hw5⟩ : ∃ w5, w5 = X1 := ⟨_, rfl⟩
        rw [← hw5] at M5 ⊢
        clear hw5
        have M6 := Lib.hid (M5.out.stay (Below.refl _ _).drew)
        clear M5
        obtain ⟨b', off', hA', hcell'⟩ := (HOK.out _ M6.out.bel).rls.elem k t ht
        obtain ⟨b2, off2, hA2, hcell2⟩ := (HOK.out _ M6.out.bel).rls.elem (k + 1) r HR.out
        have hbo : (b' = b ∧ off' = off) ∧ (b2 = b ∧ off2 = off) := by
          have := HA.out
          rw [hA'] at this
          have h2 := HA.out
          rw [hA2] at h2
          exact ⟨by simpa using this, by simpa using h2⟩
        obtain ⟨⟨rfl, rfl⟩, rfl, rfl⟩ := hbo
        have c0 : w5.drew.cell? ⟨b0, 9, none⟩ = some (.slice (some ⟨b2, off2, none⟩) d.rl.length d.lC) := M6.out.cellat b0 9 (by rw [← HA.out]; rfl)
        have p0 : w5.drew.cell? ⟨b2, off2 + k * 4, none⟩ = some (.int .i64 t.at_) := hcell' 0 _ rfl
        have q0 : w5.drew.cell? ⟨b2, off2 + (k + 1) * 4, none⟩ = some (.int .i64 r.at_) := hcell2 0 _ rfl
        have cel : ∀ j v, (rlA t).toList[j]? = some v → w5.drew.cell? ⟨b2, off2 + k * 4 + j, none⟩ = some v := fun j v hv => hcell' j v hv
        have hgt : Hid (decide ((0 : Int) < ((k + 1 : Nat) : Int)) = true) := Lib.hid (decide_eq_true (by omega))
        have hsub : Hid (IntKind.i64.wrap (((k + 1 : Nat) : Int) - 1) = (k : Int)) := Lib.hid (by rw [IntKind.wrap_i64]; omega)
        clear hcell' hcell2 hA' hA2 ht
        go_upto_region 8 with (fail)
        refine wp_region_noPanic ?_
        refine wp_region_held_drew (S := SB w5.drew) (by kernel_rfl) (Below.refl _ _) ?_
        intro hS
        refine takeD (i := 0) (v := .int .i64 ((k + 1 : Nat) : Int)) 23 rfl (by kernel_rfl) (by kernel_rfl) (by kernel_rfl) (by kernel_rfl) (fun _ _ _ h => h) (yS_pure (by kernel_rfl) (fun w => by kernel_rfl)) hS ?_
        refine takeD (i := 1) (v := .bool true) 24 rfl (by kernel_rfl) (by kernel_rfl) (by kernel_rfl) (by kernel_rfl) (fun _ _ _ h => h) (yS_pure (by kernel_rfl) (fun w => run_val (show _ = Result.ok (Next.value (.bool (decide ((0 : Int) < ((k + 1 : Nat) : Int))))) w by kernel_rfl) (by rw [hgt.out]))) hS ?_
        refine takeD (i := 2) (v := .bool true) 25 rfl (by kernel_rfl) (by kernel_rfl) (by kernel_rfl) (by kernel_rfl) (fun _ _ _ h => h) (yS_pure (by kernel_rfl) (fun w => by kernel_rfl)) hS ?_
        refine takeD (i := 3) (v := .pointer (some ⟨b0, 9, none⟩)) 26 rfl (by kernel_rfl) (by kernel_rfl) (by kernel_rfl) (by kernel_rfl) (fun _ _ _ h => h) (yS_pure (by kernel_rfl) (fun w => by kernel_rfl)) hS ?_
        refine takeD (i := 4) 27 rfl (by kernel_rfl) (by kernel_rfl) (by kernel_rfl) (by kernel_rfl) (fun _ _ _ h => h) (yS_cell (by kernel_rfl) 34 _ rfl b0 (9) (by kernel_rfl) (.slice (some ⟨b2, off2, none⟩) d.rl.length d.lC) c0 _ Try.underlying34 rfl) hS ?_
        refine takeD (i := 5) (v := .int .i64 ((k + 1 : Nat) : Int)) 28 rfl (by kernel_rfl) (by kernel_rfl) (by kernel_rfl) (by kernel_rfl) (fun _ _ _ h => h) (yS_pure (by kernel_rfl) (fun w => by kernel_rfl)) hS ?_
        refine takeD (i := 6) 29 rfl (by kernel_rfl) (by kernel_rfl) (by kernel_rfl) (by kernel_rfl) (fun _ _ _ h => h) (yS_sl (by kernel_rfl) _ _ rfl b2 (off2) d.rl.length d.lC (k + 1) 4 (by kernel_rfl) (by kernel_rfl) Try.underlying34 (by kernel_rfl) hkn) hS ?_
        refine takeD (i := 7) (v := .pointer (some ⟨b2, off2 + (k + 1) * 4, none⟩)) 30 rfl (by kernel_rfl) (by kernel_rfl) (by kernel_rfl) (by kernel_rfl) (fun _ _ _ h => h) (yS_pure (by kernel_rfl) (fun w => by kernel_rfl)) hS ?_
        refine takeD (i := 8) 31 rfl (by kernel_rfl) (by kernel_rfl) (by kernel_rfl) (by kernel_rfl) (fun _ _ _ h => h) (yS_cell (by kernel_rfl) 3 _ rfl b2 (off2 + (k + 1) * 4) (by kernel_rfl) (.int .i64 r.at_) q0 _ Try.underlying3 rfl) hS ?_
        refine takeD (i := 9) (v := .pointer (some ⟨b0, 9, none⟩)) 32 rfl (by kernel_rfl) (by kernel_rfl) (by kernel_rfl) (by kernel_rfl) (fun _ _ _ h => h) (yS_pure (by kernel_rfl) (fun w => by kernel_rfl)) hS ?_
        refine takeD (i := 10) 33 rfl (by kernel_rfl) (by kernel_rfl) (by kernel_rfl) (by kernel_rfl) (fun _ _ _ h => h) (yS_cell (by kernel_rfl) 34 _ rfl b0 (9) (by kernel_rfl) (.slice (some ⟨b2, off2, none⟩) d.rl.length d.lC) c0 _ Try.underlying34 rfl) hS ?_
        refine takeD (i := 11) (v := .int .i64 ((k + 1 : Nat) : Int)) 34 rfl (by kernel_rfl) (by kernel_rfl) (by kernel_rfl) (by kernel_rfl) (fun _ _ _ h => h) (yS_pure (by kernel_rfl) (fun w => by kernel_rfl)) hS ?_
        refine takeD (i := 12) (v := .int .i64 (k : Int)) 35 rfl (by kernel_rfl) (by kernel_rfl) (by kernel_rfl) (by kernel_rfl) (fun _ _ _ h => h) (yS_pure (by kernel_rfl) (fun w => run_val (show _ = Result.ok (Next.value (.int .i64 (IntKind.i64.wrap (((k + 1 : Nat) : Int) - 1)))) w by kernel_rfl) (by rw [hsub.out]))) hS ?_
        refine takeD (i := 13) 36 rfl (by kernel_rfl) (by kernel_rfl) (by kernel_rfl) (by kernel_rfl) (fun _ _ _ h => h) (yS_sl (by kernel_rfl) _ _ rfl b2 (off2) d.rl.length d.lC k 4 (by kernel_rfl) (by kernel_rfl) Try.underlying34 (by kernel_rfl) hkl) hS ?_
        refine takeD (i := 14) (v := .pointer (some ⟨b2, off2 + k * 4, none⟩)) 37 rfl (by kernel_rfl) (by kernel_rfl) (by kernel_rfl) (by kernel_rfl) (fun _ _ _ h => h) (yS_pure (by kernel_rfl) (fun w => by kernel_rfl)) hS ?_
        refine takeD (i := 15) 38 rfl (by kernel_rfl) (by kernel_rfl) (by kernel_rfl) (by kernel_rfl) (fun _ _ _ h => h) (yS_cell (by kernel_rfl) 3 _ rfl b2 (off2 + k * 4) (by kernel_rfl) (.int .i64 t.at_) p0 _ Try.underlying3 rfl) hS ?_
        refine takeD (i := 16) 39 rfl (by kernel_rfl) (by kernel_rfl) (by kernel_rfl) (by kernel_rfl) (fun _ _ _ h => h) (yS_row (by kernel_rfl) 39 _ rfl b0 (by kernel_rfl) 39 (imgD d) _ (M6.out.getc b0) Try.underlying39 rfl (by kernel_rfl)) hS ?_
        refine takeD (i := 17) (v := .pointer (some ⟨b0, 9, none⟩)) 40 rfl (by kernel_rfl) (by kernel_rfl) (by kernel_rfl) (by kernel_rfl) (fun _ _ _ h => h) (yS_pure (by kernel_rfl) (fun w => by kernel_rfl)) hS ?_
        refine takeD (i := 18) 41 rfl (by kernel_rfl) (by kernel_rfl) (by kernel_rfl) (by kernel_rfl) (fun _ _ _ h => h) (yS_cell (by kernel_rfl) 34 _ rfl b0 (9) (by kernel_rfl) (.slice (some ⟨b2, off2, none⟩) d.rl.length d.lC) c0 _ Try.underlying34 rfl) hS ?_
        refine takeD (i := 19) (v := .int .i64 ((k + 1 : Nat) : Int)) 42 rfl (by kernel_rfl) (by kernel_rfl) (by kernel_rfl) (by kernel_rfl) (fun _ _ _ h => h) (yS_pure (by kernel_rfl) (fun w => by kernel_rfl)) hS ?_
        refine takeD (i := 20) (v := .int .i64 (k : Int)) 43 rfl (by kernel_rfl) (by kernel_rfl) (by kernel_rfl) (by kernel_rfl) (fun _ _ _ h => h) (yS_pure (by kernel_rfl) (fun w => run_val (show _ = Result.ok (Next.value (.int .i64 (IntKind.i64.wrap (((k + 1 : Nat) : Int) - 1)))) w by kernel_rfl) (by rw [hsub.out]))) hS ?_
        refine takeD (i := 21) 44 rfl (by kernel_rfl) (by kernel_rfl) (by kernel_rfl) (by kernel_rfl) (fun _ _ _ h => h) (yS_sl (by kernel_rfl) _ _ rfl b2 (off2) d.rl.length d.lC k 4 (by kernel_rfl) (by kernel_rfl) Try.underlying34 (by kernel_rfl) hkl) hS ?_
        refine takeD (i := 22) 45 rfl (by kernel_rfl) (by kernel_rfl) (by kernel_rfl) (by kernel_rfl) (fun _ _ _ h => h) (yS_part (by kernel_rfl) 116 _ rfl b2 (off2 + k * 4) (by kernel_rfl) (rlA t) _ cel Try.underlying116 rfl (by kernel_rfl)) hS ?_
        refine callD (i := 23) 46 (by kernel_rfl) rfl (by kernel_rfl) (by kernel_rfl) _ _ _ rfl _ (by kernel_rfl) ((wide09_any d P _ (HOK.out _ (M6.out.bel.trans (hS.mono M6.out.le))) t).mono ?_)
        rintro e X1 ⟨⟨n1, rfl⟩, hb1⟩
        have hS1 : SB w5.drew X1 := hS.trans (hb1.mono hS.size)
        clear hb1
        refine ⟨_, rfl, hS1, ?_⟩
        clear hS
        have hS := hS1
        clear hS1
        obtain ⟨bb, hbb⟩ : ∃ bb, decide (r.at_ < IntKind.i64.wrap (t.at_ + n1)) = bb := ⟨_, rfl⟩
        refine takeD (i := 24) (v := .int .i64 (IntKind.i64.wrap (t.at_ + n1))) 47 rfl (by kernel_rfl) (by kernel_rfl) (by kernel_rfl) (by kernel_rfl) (fun _ _ _ h => h) (yS_pure (by kernel_rfl) (fun w => by kernel_rfl)) hS ?_
        refine takeD (i := 25) (v := .bool bb) 48 rfl (by kernel_rfl) (by kernel_rfl) (by kernel_rfl) (by kernel_rfl) (fun _ _ _ h => h) (yS_pure (by kernel_rfl) (fun w => run_val (show _ = Result.ok (Next.value (.bool (decide (r.at_ < IntKind.i64.wrap (t.at_ + n1))))) w by kernel_rfl) (by rw [hbb]))) hS ?_
        refine takeD (i := 26) (v := .bool bb) 49 rfl (by kernel_rfl) (by kernel_rfl) (by kernel_rfl) (by kernel_rfl) (fun _ _ _ h => h) (yS_pure (by kernel_rfl) (fun w => by kernel_rfl)) hS ?_
        clear hbb
        refine wpAnyH_done (by kernel_rfl) ?_ _
        refine NoPanic.normal ?_
        simp only [Act.put, List.setIfInBounds_toArray, List.set_cons_succ, List.set_cons_zero]
        have M7 := Lib.hid (M6.out.stay hS)
        have MZ := Lib.hid M7.out.bel
        clear hS c0 p0 q0 cel M6 hgt hsub
        generalize IntKind.i64.wrap (t.at_ + n1) = y1
        cases bb
        · clear MZ
          go_wp2_with fail
          go_roundw
          case rel => exact ⟨k + 2, by omega, by first | rfl | go_num, M7⟩
          case measure => simp [intOf]; omega
        · go_wp2
          (go_ret; exact ⟨⟨_, rfl⟩, by rw [HB.out]; exact MZ.out⟩)
    · have MZ := Lib.hid M3.out.bel
      go_wp2
      (go_ret; exact ⟨⟨_, rfl⟩, by rw [HB.out]; exact MZ.out⟩)
end Go.Proofs.Ytlkelfaokbdddaa
