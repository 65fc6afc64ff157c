/-
  Layer 9: the document's test of slots: it answers something.
  Conditions: none. (My own text.)
-/
import Derived.Test.YtlkelfaokbdddaaImf
namespace Go.Proofs.Ytlkelfaokbdddaa
open Go.RowKit Spm
set_option linter.unusedVariables false
set_option linter.unusedSimpArgs false

set_option maxRecDepth 100000 in
set_option maxHeartbeats 4000000 in
theorem slots09_any (d : ImgD) (P : Nat → Prop) (w : World) (h : ImgOk w P d) : Calls Try.prog 32 #[.agg (imgD d)] w (BoolE w) := by
  have HOK := Lib.hid (fun (wr : World) (hb : Below w.heap.size w wr) => h.stay hb)
  clear h
  rw [show imgD d = #[.string d.nm, .int .i64 d.fl, .slice d.sA d.sl.length d.sC, .slice d.nA d.nd.length d.nC, .slice d.rA d.rp.length d.rC, .slice d.yA d.sy.length d.yC, .slice d.bA d.bk.length d.bC, .slice d.wA d.wd.length d.wC, .int .i64 d.sh, .slice d.lA d.rl.length d.lC, .slice d.tA d.st.length d.tC, .slice d.iA d.ini.length d.iC, .slice d.fA d.fin.length d.fC, .slice d.xA d.xn d.xC, .int .i64 d.tz] from rfl]
  have M0 := Lib.hid ((Has.start (Below.refl w.heap.size w) (Nat.le_refl _)).newcel 39 #[.string d.nm, .int .i64 d.fl, .slice d.sA d.sl.length d.sC, .slice d.nA d.nd.length d.nC, .slice d.rA d.rp.length d.rC, .slice d.yA d.sy.length d.yC, .slice d.bA d.bk.length d.bC, .slice d.wA d.wd.length d.wC, .int .i64 d.sh, .slice d.lA d.rl.length d.lC, .slice d.tA d.st.length d.tC, .slice d.iA d.ini.length d.iC, .slice d.fA d.fin.length d.fC, .slice d.xA d.xn d.xC, .int .i64 d.tz])
  go_enter Try.func32, Try.ntmps32
  go_upto_region 1 with (fail)
  obtain ⟨W, hW⟩ : ∃ W, (w.alloc (.cells #[.string d.nm, .int .i64 d.fl, .slice d.sA d.sl.length d.sC, .slice d.nA d.nd.length d.nC, .slice d.rA d.rp.length d.rC, .slice d.yA d.sy.length d.yC, .slice d.bA d.bk.length d.bC, .slice d.wA d.wd.length d.wC, .int .i64 d.sh, .slice d.lA d.rl.length d.lC, .slice d.tA d.st.length d.tC, .slice d.iA d.ini.length d.iC, .slice d.fA d.fin.length d.fC, .slice d.xA d.xn d.xC, .int .i64 d.tz] 39)) = W := ⟨_, rfl⟩
  rw [hW] at M0 ⊢
  clear hW
  generalize hB : w.heap.size = b0 at M0 HOK ⊢
  have HB := Lib.hid hB
  clear hB
  have M1 : Hid (Has b0 w W (Star (Cel b0 39 (imgD d)) Emp)) := M0
  clear M0
  have i10 : W.cell? ⟨b0, 10, none⟩ = some (.slice d.tA d.st.length d.tC) := M1.out.cellat b0 10 rfl
  have hll := (HOK.out W M1.out.bel).sls.len
  have hrl := (HOK.out W M1.out.bel).rls.len
  have hyl := (HOK.out W M1.out.bel).sys.rows.len
  unfold maxLen at hll hrl hyl
  have MZ := Lib.hid M1.out.bel
  by_cases hv : (128 : Int) < (d.st.length : Int)
  · go_wp2
    (go_ret; exact ⟨⟨_, rfl⟩, by rw [HB.out]; exact MZ.out⟩)
  clear MZ
  go_wp2_with fail
  go_loopw [3] (fun i wr => ∃ k : Nat, k ≤ d.st.length ∧ i = .int .i64 k ∧ Hid (Has b0 w wr (Star (Cel b0 39 (imgD d)) Emp))) (fun i _ => d.st.length - (intOf i).toNat)
  case atStart => exact ⟨0, Nat.zero_le _, rfl, M1⟩
  case round =>
    clear i10 M1
    obtain ⟨k, hk, rfl, M3⟩ := hrel
    obtain ⟨w3, hw3⟩ : ∃ w3, w3 = wr := ⟨_, rfl⟩
    rw [← hw3] at M3 ⊢
    clear hw3
    by_cases hkn : k < d.st.length
    · obtain ⟨s, hs⟩ : ∃ s, d.st[k]? = some s := ⟨_, List.getElem?_eq_getElem hkn⟩
      have HSS := Lib.hid hs
      obtain ⟨b, off, hA, hcell⟩ := (HOK.out _ M3.out.bel).sls.elem k s hs
      have HA := Lib.hid hA
      have i10 : w3.cell? ⟨b0, 10, none⟩ = some (.slice (some ⟨b, off, none⟩) d.st.length d.tC) := M3.out.cellat b0 10 (by rw [← hA]; rfl)
      have cel : ∀ j v, (slA s).toList[j]? = some v → w3.cell? ⟨b, off + k * 3 + j, none⟩ = some v := fun j v hv => hcell j v hv
      clear hcell hs hA
      have Na := Lib.hid (M3.out.newcel 119 #[.int .i64 0, .int .i64 0, .int .i64 0])
      have Nb := Lib.hid (Na.out.rowc w3.heap.size (slA s))
      go_upto_region 7 with (first | (refine wpList_partW rfl 119 _ rfl b (off + k * 3) rfl (slA s) _ cel Try.underlying119 rfl (by kernel_rfl) ?_) | (refine wpList_store_row rfl 119 _ _ rfl w3.heap.size (slA s) rfl rfl 119 #[.int .i64 0, .int .i64 0, .int .i64 0] (Na.out.getc w3.heap.size) (by kernel_rfl) rfl (by kernel_rfl) ?_))
      obtain ⟨W5, hW⟩ : ∃ W5, (w3.alloc (.cells #[.int .i64 0, .int .i64 0, .int .i64 0] 119)).setRow w3.heap.size (slA s) = W5 := ⟨_, rfl⟩
      have N5 := Nb
      rw [hW] at N5 ⊢
      clear hW Na Nb
      generalize w3.heap.size = q at N5 ⊢
      clear i10 cel M3
      have s0 : W5.cell? ⟨q, 0, none⟩ = some (.int .i64 s.at_) := N5.out.cellat q 0 rfl
      have s1 : W5.cell? ⟨q, 1, none⟩ = some (.int .i64 s.sym) := N5.out.cellat q 1 rfl
      have s2 : W5.cell? ⟨q, 2, none⟩ = some (.int .i64 s.stub) := N5.out.cellat q 2 rfl
      have MZ := Lib.hid N5.out.bel
      by_cases hsy : 0 ≤ s.sym ∧ s.sym < (d.sy.length : Int)
      case neg =>
        have i5 : W5.cell? ⟨b0, 5, none⟩ = some (.slice d.yA d.sy.length d.yC) := N5.out.cellat b0 5 rfl
        clear N5
        go_wp2
        all_goals (go_ret; exact ⟨⟨_, rfl⟩, by rw [HB.out]; exact MZ.out⟩)
      obtain ⟨y, hy⟩ : ∃ y : Nat, s.sym = y := ⟨s.sym.toNat, by omega⟩
      have hyn : y < d.sy.length := by omega
      rw [hy] at s1
      have HY := Lib.hid hy
      clear hsy hy
      obtain ⟨x, hx⟩ : ∃ x, d.sy[y]? = some x := ⟨_, List.getElem?_eq_getElem hyn⟩
      obtain ⟨b', off', hA', hcell'⟩ := (HOK.out _ N5.out.bel).sys.rows.elem y x hx
      have i5 : W5.cell? ⟨b0, 5, none⟩ = some (.slice (some ⟨b', off', none⟩) d.sy.length d.yC) := N5.out.cellat b0 5 (by rw [← hA']; rfl)
      have y3 : W5.cell? ⟨b', off' + y * 9 + 3, none⟩ = some (.int .i64 x.kind) := hcell' 3 _ rfl
      clear hcell' hx hA'
      by_cases hk1 : x.kind = 1
      case neg =>
        have hk1b : (x.kind != 1) = true := bne_iff_ne.2 hk1
        clear hk1 N5
        go_wp2
        all_goals (go_ret; exact ⟨⟨_, rfl⟩, by rw [HB.out]; exact MZ.out⟩)
      rw [hk1] at y3
      clear hk1 MZ
      have hd1 : decide ((y : Int) < 0) = false := decide_eq_false (by omega)
      have hd2 : decide (d.sy.length ≤ y) = false := decide_eq_false (by omega)
      go_wp2_with (first | (refine wpList_rowW rfl 39 _ rfl b0 rfl (imgD d) _ (N5.out.getc b0) Try.underlying39 rfl (by kernel_rfl) ?_))
      refine (stands_any d.img d.segs d.sl P s.at_ 8 0 _ (HOK.out _ N5.out.bel).segs).mono ?_
      rintro e w6 ⟨⟨b1, rfl⟩, hb1⟩
      have N6 := Lib.hid (N5.out.stay hb1)
      have MZ := Lib.hid N6.out.bel
      clear hb1 s0 s1 s2 i5 y3 N5
      have s2 : w6.cell? ⟨q, 2, none⟩ = some (.int .i64 s.stub) := N6.out.cellat q 2 rfl
      cases b1
      · go_wp2
        (go_ret; exact ⟨⟨_, rfl⟩, by rw [HB.out]; exact MZ.out⟩)
      clear MZ
      go_wp2_with (first | (refine wpList_rowW rfl 39 _ rfl b0 rfl (imgD d) _ (N6.out.getc b0) Try.underlying39 rfl (by kernel_rfl) ?_))
      refine (stands_any d.img d.segs d.sl P s.stub 8 4 _ (HOK.out _ N6.out.bel).segs).mono ?_
      rintro e w7 ⟨⟨b2, rfl⟩, hb2⟩
      have N7 := Lib.hid (N6.out.stay hb2)
      have MZ := Lib.hid N7.out.bel
      clear hb2 s2 N6
      cases b2
      · go_wp2
        (go_ret; exact ⟨⟨_, rfl⟩, by rw [HB.out]; exact MZ.out⟩)
      clear MZ
      -- the one ahead
      have s0 : w7.cell? ⟨q, 0, none⟩ = some (.int .i64 s.at_) := N7.out.cellat q 0 rfl
      go_upto_region 9 with (fail)
      have HG : ∃ bb : Bool, k = 0 ∨ bb = true ∨ bb = false := ⟨true, .inr (.inl rfl)⟩
      clear HG
      rcases Nat.eq_zero_or_pos k with hk0 | hk0
      case' inl =>
        subst hk0
        have hgt : decide ((0 : Int) < (((0 : Nat) : Int))) = false := by decide
        go_quiet (fail)
      case' inr =>
        obtain ⟨k, rfl⟩ : ∃ k', k = k' + 1 := ⟨k - 1, by omega⟩
        clear hk0
        have hkl : k < d.st.length := by omega
        obtain ⟨t, ht⟩ : ∃ t, d.st[k]? = some t := ⟨_, List.getElem?_eq_getElem hkl⟩
        obtain ⟨b3, off3, hA3, hcell3⟩ := (HOK.out _ N7.out.bel).sls.elem k t ht
        have i10 : w7.cell? ⟨b0, 10, none⟩ = some (.slice (some ⟨b3, off3, none⟩) d.st.length d.tC) := N7.out.cellat b0 10 (by rw [← hA3]; rfl)
        have p0 : w7.cell? ⟨b3, off3 + k * 3, none⟩ = some (.int .i64 t.at_) := hcell3 0 _ rfl
        have hgt : decide ((0 : Int) < ((k : Int) + 1)) = true := decide_eq_true (by omega)
        have hsub : IntKind.i64.wrap ((k : Int) + 1 - 1) = (k : Int) := by rw [IntKind.wrap_i64]; omega
        clear hcell3 ht hA3
        go_quiet (fail)
      all_goals
        rename_i nq
        have N8 := Lib.hid (N7.out.stay (below_drewN (Below.refl _ _) nq))
        have MZ := Lib.hid N8.out.bel
        clear N7 s0
        go_wp2_with fail
      all_goals first
      | (go_ret; exact ⟨⟨_, rfl⟩, by rw [HB.out]; exact MZ.out⟩)
      | skip
      all_goals
        clear MZ
        go_loopw [5] (fun j wr => ∃ k2 : Nat, k2 ≤ d.rl.length ∧ j = .int .i64 k2 ∧ Hid (Has b0 w wr (Star (Cel q 119 (slA s)) (Star (Cel b0 39 (imgD d)) Emp)))) (fun j _ => d.rl.length - (intOf j).toNat)
        case atStart => exact ⟨0, Nat.zero_le _, rfl, N8⟩
        case round =>
          clear N8
          obtain ⟨k2, hk2, rfl, N9⟩ := hrel
          obtain ⟨w9, hw9⟩ : ∃ w9, w9 = wr := ⟨_, rfl⟩
          rw [← hw9] at N9 ⊢
          clear hw9
          by_cases hk2n : k2 < d.rl.length
          · obtain ⟨r, hr⟩ : ∃ r, d.rl[k2]? = some r := ⟨_, List.getElem?_eq_getElem hk2n⟩
            obtain ⟨b8, off8, hA8, hcell8⟩ := (HOK.out _ N9.out.bel).rls.elem k2 r hr
            have i9 : w9.cell? ⟨b0, 9, none⟩ = some (.slice (some ⟨b8, off8, none⟩) d.rl.length d.lC) := N9.out.cellat b0 9 (by rw [← hA8]; rfl)
            have cel : ∀ j v, (rlA r).toList[j]? = some v → w9.cell? ⟨b8, off8 + k2 * 4 + j, none⟩ = some v := fun j v hv => hcell8 j v hv
            clear hcell8 hr hA8
            have Na := Lib.hid (N9.out.newcel 116 #[.int .i64 0, .int .i64 0, .int .i64 0, .int .i64 0])
            have Nb := Lib.hid (Na.out.rowc w9.heap.size (rlA r))
            go_upto_region 15 with (first | (refine wpList_partW rfl 116 _ rfl b8 (off8 + k2 * 4) rfl (rlA r) _ cel Try.underlying116 rfl (by kernel_rfl) ?_) | (refine wpList_store_row rfl 116 _ _ rfl w9.heap.size (rlA r) rfl rfl 116 #[.int .i64 0, .int .i64 0, .int .i64 0, .int .i64 0] (Na.out.getc w9.heap.size) (by kernel_rfl) rfl (by kernel_rfl) ?_))
            obtain ⟨w10, hW⟩ : ∃ w10, (w9.alloc (.cells #[.int .i64 0, .int .i64 0, .int .i64 0, .int .i64 0] 116)).setRow w9.heap.size (rlA r) = w10 := ⟨_, rfl⟩
            have N10 := Nb
            rw [hW] at N10 ⊢
            clear hW Na Nb
            generalize w9.heap.size = q2 at N10 ⊢
            clear i9 cel N9
            have M6 := Lib.hid (N10.out.stay (Below.refl _ _).drew)
            have t0 : w10.drew.cell? ⟨q, 0, none⟩ = some (.int .i64 s.at_) := M6.out.cellat q 0 rfl
            have t1 : w10.drew.cell? ⟨q2, 0, none⟩ = some (.int .i64 r.at_) := M6.out.cellat q2 0 rfl
            refine wp_region_noPanic ?_
            refine wp_region_held_drew (S := SB w10.drew) (by kernel_rfl) (Below.refl _ _) ?_
            intro hS
            refine takeD (i := 0) (v := .pointer (some ⟨q, 0, none⟩)) 85 rfl (by kernel_rfl) (by kernel_rfl) (by kernel_rfl) (by kernel_rfl) (fun _ _ _ h => h) (yS_pure (by kernel_rfl) (fun w => by kernel_rfl)) hS ?_
            refine takeD (i := 1) 86 rfl (by kernel_rfl) (by kernel_rfl) (by kernel_rfl) (by kernel_rfl) (fun _ _ _ h => h) (yS_cell (by kernel_rfl) 3 _ rfl q (0) (by kernel_rfl) (.int .i64 s.at_) t0 _ Try.underlying3 rfl) hS ?_
            refine takeD (i := 2) (v := .pointer (some ⟨q2, 0, none⟩)) 87 rfl (by kernel_rfl) (by kernel_rfl) (by kernel_rfl) (by kernel_rfl) (fun _ _ _ h => h) (yS_pure (by kernel_rfl) (fun w => by kernel_rfl)) hS ?_
            refine takeD (i := 3) 88 rfl (by kernel_rfl) (by kernel_rfl) (by kernel_rfl) (by kernel_rfl) (fun _ _ _ h => h) (yS_cell (by kernel_rfl) 3 _ rfl q2 (0) (by kernel_rfl) (.int .i64 r.at_) t1 _ Try.underlying3 rfl) hS ?_
            refine takeD (i := 4) 89 rfl (by kernel_rfl) (by kernel_rfl) (by kernel_rfl) (by kernel_rfl) (fun _ _ _ h => h) (yS_row (by kernel_rfl) 39 _ rfl b0 (by kernel_rfl) 39 (imgD d) _ (M6.out.getc b0) Try.underlying39 rfl (by kernel_rfl)) hS ?_
            refine takeD (i := 5) 90 rfl (by kernel_rfl) (by kernel_rfl) (by kernel_rfl) (by kernel_rfl) (fun _ _ _ h => h) (yS_row (by kernel_rfl) 116 _ rfl q2 (by kernel_rfl) 116 (rlA r) _ (M6.out.getc q2) Try.underlying116 rfl (by kernel_rfl)) hS ?_
            refine callD (i := 6) 91 (by kernel_rfl) rfl (by kernel_rfl) (by kernel_rfl) _ _ _ rfl _ (by kernel_rfl) ((wide09_any d P _ (HOK.out _ (M6.out.bel.trans (hS.mono M6.out.le))) r).mono ?_)
            rintro e X1 ⟨⟨n1, rfl⟩, hb1⟩
            have hS1 : SB w10.drew X1 := hS.trans (hb1.mono hS.size)
            clear hb1
            refine ⟨_, rfl, hS1, ?_⟩
            clear hS
            have hS := hS1
            clear hS1
            obtain ⟨bb, hbb⟩ : ∃ bb, decide (s.at_ < IntKind.i64.wrap (r.at_ + n1)) = bb := ⟨_, rfl⟩
            refine takeD (i := 7) (v := .int .i64 (IntKind.i64.wrap (r.at_ + n1))) 92 rfl (by kernel_rfl) (by kernel_rfl) (by kernel_rfl) (by kernel_rfl) (fun _ _ _ h => h) (yS_pure (by kernel_rfl) (fun w => by kernel_rfl)) hS ?_
            refine takeD (i := 8) (v := .bool bb) 93 rfl (by kernel_rfl) (by kernel_rfl) (by kernel_rfl) (by kernel_rfl) (fun _ _ _ h => h) (yS_pure (by kernel_rfl) (fun w => run_val (show _ = Result.ok (Next.value (.bool (decide (s.at_ < IntKind.i64.wrap (r.at_ + n1))))) w by kernel_rfl) (by rw [hbb]))) hS ?_
            refine takeD (i := 9) (v := .bool bb) 94 rfl (by kernel_rfl) (by kernel_rfl) (by kernel_rfl) (by kernel_rfl) (fun _ _ _ h => h) (yS_pure (by kernel_rfl) (fun w => by kernel_rfl)) hS ?_
            clear hbb
            cases bb
            case' true =>
              refine takeD (i := 10) (v := .pointer (some ⟨q2, 0, none⟩)) 95 rfl (by kernel_rfl) (by kernel_rfl) (by kernel_rfl) (by kernel_rfl) (fun _ _ _ h => h) (yS_pure (by kernel_rfl) (fun w => by kernel_rfl)) hS ?_
              refine takeD (i := 11) 96 rfl (by kernel_rfl) (by kernel_rfl) (by kernel_rfl) (by kernel_rfl) (fun _ _ _ h => h) (yS_cell (by kernel_rfl) 3 _ rfl q2 (0) (by kernel_rfl) (.int .i64 r.at_) t1 _ Try.underlying3 rfl) hS ?_
              refine takeD (i := 12) (v := .pointer (some ⟨q, 0, none⟩)) 97 rfl (by kernel_rfl) (by kernel_rfl) (by kernel_rfl) (by kernel_rfl) (fun _ _ _ h => h) (yS_pure (by kernel_rfl) (fun w => by kernel_rfl)) hS ?_
              refine takeD (i := 13) 98 rfl (by kernel_rfl) (by kernel_rfl) (by kernel_rfl) (by kernel_rfl) (fun _ _ _ h => h) (yS_cell (by kernel_rfl) 3 _ rfl q (0) (by kernel_rfl) (.int .i64 s.at_) t0 _ Try.underlying3 rfl) hS ?_
              obtain ⟨bc, hbc⟩ : ∃ bc, decide (r.at_ < IntKind.i64.wrap (s.at_ + 8)) = bc := ⟨_, rfl⟩
              refine takeD (i := 14) (v := .int .i64 (IntKind.i64.wrap (s.at_ + 8))) 99 rfl (by kernel_rfl) (by kernel_rfl) (by kernel_rfl) (by kernel_rfl) (fun _ _ _ h => h) (yS_pure (by kernel_rfl) (fun w => by kernel_rfl)) hS ?_
              refine takeD (i := 15) (v := .bool bc) 100 rfl (by kernel_rfl) (by kernel_rfl) (by kernel_rfl) (by kernel_rfl) (fun _ _ _ h => h) (yS_pure (by kernel_rfl) (fun w => run_val (show _ = Result.ok (Next.value (.bool (decide (r.at_ < IntKind.i64.wrap (s.at_ + 8))))) w by kernel_rfl) (by rw [hbc]))) hS ?_
              refine takeD (i := 16) (v := .bool bc) 101 rfl (by kernel_rfl) (by kernel_rfl) (by kernel_rfl) (by kernel_rfl) (fun _ _ _ h => h) (yS_pure (by kernel_rfl) (fun w => by kernel_rfl)) hS ?_
              clear hbc
              refine wpAnyH_done (by kernel_rfl) ?_ _
              refine NoPanic.normal ?_
              simp only [Act.put, List.setIfInBounds_toArray, List.set_cons_succ, List.set_cons_zero]
            case' false =>
              refine takeD (i := 10) (v := undef) 95 rfl (by kernel_rfl) (by kernel_rfl) (by kernel_rfl) (by kernel_rfl) (fun _ _ _ h => h) (.inr ⟨by kernel_rfl, rfl⟩) hS ?_
              refine takeD (i := 11) (v := undef) 96 rfl (by kernel_rfl) (by kernel_rfl) (by kernel_rfl) (by kernel_rfl) (fun _ _ _ h => h) (.inr ⟨by kernel_rfl, rfl⟩) hS ?_
              refine takeD (i := 12) (v := undef) 97 rfl (by kernel_rfl) (by kernel_rfl) (by kernel_rfl) (by kernel_rfl) (fun _ _ _ h => h) (.inr ⟨by kernel_rfl, rfl⟩) hS ?_
              refine takeD (i := 13) (v := undef) 98 rfl (by kernel_rfl) (by kernel_rfl) (by kernel_rfl) (by kernel_rfl) (fun _ _ _ h => h) (.inr ⟨by kernel_rfl, rfl⟩) hS ?_
              refine takeD (i := 14) (v := undef) 99 rfl (by kernel_rfl) (by kernel_rfl) (by kernel_rfl) (by kernel_rfl) (fun _ _ _ h => h) (.inr ⟨by kernel_rfl, rfl⟩) hS ?_
              refine takeD (i := 15) (v := undef) 100 rfl (by kernel_rfl) (by kernel_rfl) (by kernel_rfl) (by kernel_rfl) (fun _ _ _ h => h) (.inr ⟨by kernel_rfl, rfl⟩) hS ?_
              refine takeD (i := 16) (v := .bool false) 101 rfl (by kernel_rfl) (by kernel_rfl) (by kernel_rfl) (by kernel_rfl) (fun _ _ _ h => h) (yS_pure (by kernel_rfl) (fun w => by kernel_rfl)) hS ?_
              refine wpAnyH_done (by kernel_rfl) ?_ _
              refine NoPanic.normal ?_
              simp only [Act.put, List.setIfInBounds_toArray, List.set_cons_succ, List.set_cons_zero]
            all_goals
              have M7 := Lib.hid (M6.out.stay hS)
              have M8 := Lib.hid (M7.out.norm (Star (Cel q 119 (slA s)) (Star (Cel b0 39 (imgD d)) Emp)))
              have MZ := Lib.hid M8.out.bel
              clear hS t0 t1 M6 N10 M7
            case' true =>
              cases bc
              case' true =>
                go_wp2
                (go_ret; exact ⟨⟨_, rfl⟩, by rw [HB.out]; exact MZ.out⟩)
            all_goals
              clear MZ
              go_wp2_with fail
              first
                | (go_roundw
                   case rel => exact ⟨k2 + 1, by omega, by go_num, M8⟩
                   case measure => simp [intOf]; omega)
                | (refine ⟨?_, ?_⟩
                   · (repeat apply Exists.intro)
                     refine ⟨?_, rfl⟩
                     exact ⟨k2 + 1, by omega, by go_num, M8⟩
                   · simp [intOf]; omega)
          · have MZ := Lib.hid (N9.out.norm (Star (Cel b0 39 (imgD d)) Emp))
            have i9 : w9.cell? ⟨b0, 9, none⟩ = some (.slice d.lA d.rl.length d.lC) := N9.out.cellat b0 9 rfl
            have hge : ¬ ((k2 : Int) < (d.rl.length : Int)) := by omega
            go_wp2_with fail
            first
            | (go_roundw
               case rel => first | exact ⟨k + 2, by omega, by first | rfl | go_num, MZ⟩ | exact ⟨1, by omega, by first | rfl | go_num, MZ⟩
               case measure => simp [intOf]; omega)
            | (refine ⟨?_, ?_⟩
               · (repeat apply Exists.intro)
                 refine ⟨?_, rfl⟩
                 first | exact ⟨k + 2, by omega, by first | rfl | go_num, MZ⟩ | exact ⟨1, by omega, by first | rfl | go_num, MZ⟩
               · simp [intOf]; omega)
    · have MZ := Lib.hid M3.out.bel
      have i10 : w3.cell? ⟨b0, 10, none⟩ = some (.slice d.tA d.st.length d.tC) := M3.out.cellat b0 10 rfl
      go_wp2
      (go_ret; exact ⟨⟨_, rfl⟩, by rw [HB.out]; exact MZ.out⟩)
end Go.Proofs.Ytlkelfaokbdddaa
