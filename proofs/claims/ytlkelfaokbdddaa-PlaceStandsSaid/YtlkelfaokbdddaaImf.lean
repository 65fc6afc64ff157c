/-
  Layer 9: may a relocation be: some answer.
  Conditions: none. (My own text.)
-/
import Derived.Test.YtlkelfaokbdddaaImw
namespace Go.Proofs.Ytlkelfaokbdddaa
open Go.RowKit Spm
set_option linter.unusedVariables false
set_option linter.unusedSimpArgs false

set_option maxRecDepth 100000 in
set_option maxHeartbeats 4000000 in
theorem fits09_any (d : ImgD) (P : Nat → Prop) (w : World) (h : ImgOk w P d) (r : Rl) : Calls Try.prog 64 #[.agg (imgD d), .agg (rlA r)] w (BoolE w) := by
  have HOK := Lib.hid (fun (wr : World) (hb : Below w.heap.size w wr) => h.stay hb)
  clear h
  rw [show imgD d = #[.string d.nm, .int .i64 d.fl, .slice d.sA d.sl.length d.sC, .slice d.nA d.nd.length d.nC, .slice d.rA d.rp.length d.rC, .slice d.yA d.sy.length d.yC, .slice d.bA d.bk.length d.bC, .slice d.wA d.wd.length d.wC, .int .i64 d.sh, .slice d.lA d.rl.length d.lC, .slice d.tA d.st.length d.tC, .slice d.iA d.ini.length d.iC, .slice d.fA d.fin.length d.fC, .slice d.xA d.xn d.xC, .int .i64 d.tz] from rfl, show rlA r = #[.int .i64 r.at_, .int .i64 r.kind, .int .i64 r.sym, .int .i64 r.add] from rfl]
  have M0 := Lib.hid (((Has.start (Below.refl w.heap.size w) (Nat.le_refl _)).newcel 39 #[.string d.nm, .int .i64 d.fl, .slice d.sA d.sl.length d.sC, .slice d.nA d.nd.length d.nC, .slice d.rA d.rp.length d.rC, .slice d.yA d.sy.length d.yC, .slice d.bA d.bk.length d.bC, .slice d.wA d.wd.length d.wC, .int .i64 d.sh, .slice d.lA d.rl.length d.lC, .slice d.tA d.st.length d.tC, .slice d.iA d.ini.length d.iC, .slice d.fA d.fin.length d.fC, .slice d.xA d.xn d.xC, .int .i64 d.tz]).newcel 116 #[.int .i64 r.at_, .int .i64 r.kind, .int .i64 r.sym, .int .i64 r.add])
  have e1 : (w.alloc (.cells #[.string d.nm, .int .i64 d.fl, .slice d.sA d.sl.length d.sC, .slice d.nA d.nd.length d.nC, .slice d.rA d.rp.length d.rC, .slice d.yA d.sy.length d.yC, .slice d.bA d.bk.length d.bC, .slice d.wA d.wd.length d.wC, .int .i64 d.sh, .slice d.lA d.rl.length d.lC, .slice d.tA d.st.length d.tC, .slice d.iA d.ini.length d.iC, .slice d.fA d.fin.length d.fC, .slice d.xA d.xn d.xC, .int .i64 d.tz] 39)).heap.size = w.heap.size + 1 := by simp
  rw [e1] at M0
  go_enter Try.func64, Try.ntmps64
  go_upto_region 1 with (fail)
  obtain ⟨W, hW⟩ : ∃ W, ((w.alloc (.cells #[.string d.nm, .int .i64 d.fl, .slice d.sA d.sl.length d.sC, .slice d.nA d.nd.length d.nC, .slice d.rA d.rp.length d.rC, .slice d.yA d.sy.length d.yC, .slice d.bA d.bk.length d.bC, .slice d.wA d.wd.length d.wC, .int .i64 d.sh, .slice d.lA d.rl.length d.lC, .slice d.tA d.st.length d.tC, .slice d.iA d.ini.length d.iC, .slice d.fA d.fin.length d.fC, .slice d.xA d.xn d.xC, .int .i64 d.tz] 39)).alloc (.cells #[.int .i64 r.at_, .int .i64 r.kind, .int .i64 r.sym, .int .i64 r.add] 116)) = W := ⟨_, rfl⟩
  rw [hW] at M0 ⊢
  clear hW e1
  generalize w.heap.size + 1 = b1 at M0 ⊢
  generalize hB : w.heap.size = b0 at M0 HOK ⊢
  have HB := Lib.hid hB
  clear hB
  have M1 : Hid (Has b0 w W (Star (Cel b1 116 (rlA r)) (Star (Cel b0 39 (imgD d)) Emp))) := M0
  clear M0
  have i5 : W.cell? ⟨b0, 5, none⟩ = some (.slice d.yA d.sy.length d.yC) := M1.out.cellat b0 5 rfl
  have r0 : W.cell? ⟨b1, 0, none⟩ = some (.int .i64 r.at_) := M1.out.cellat b1 0 rfl
  have r1 : W.cell? ⟨b1, 1, none⟩ = some (.int .i64 r.kind) := M1.out.cellat b1 1 rfl
  have r2 : W.cell? ⟨b1, 2, none⟩ = some (.int .i64 r.sym) := M1.out.cellat b1 2 rfl
  have r3 : W.cell? ⟨b1, 3, none⟩ = some (.int .i64 r.add) := M1.out.cellat b1 3 rfl
  have MZ := Lib.hid M1.out.bel
  have HO := Lib.hid (HOK.out W M1.out.bel)
  have hsl := HO.out.sys.rows.len
  unfold maxLen at hsl
  obtain ⟨ra, rk, rs, rd⟩ := r
  simp only at r0 r1 r2 r3 ⊢
  by_cases hk1 : rk = 1
  · subst hk1
    by_cases g : rs = -1 ∧ 0 ≤ rd ∧ rd ≤ 65536
    · obtain ⟨rfl, g2, g3⟩ := g
      clear MZ
      go_wp2_with (first | (refine wpList_rowW rfl 39 _ rfl b0 rfl (imgD d) _ (M1.out.getc b0) Try.underlying39 rfl (by kernel_rfl) ?_))
      refine (stands_any d.img d.segs d.sl P ra 8 0 _ HO.out.segs).mono ?_
      rintro e w1 ⟨⟨b, rfl⟩, hb1⟩
      have MZ := Lib.hid (M1.out.stay hb1).bel
      clear hb1 M1 HO HOK
      go_wp2
      (go_ret; exact ⟨⟨_, rfl⟩, by rw [HB.out]; exact MZ.out⟩)
    · clear M1 HO HOK
      go_wp2
      all_goals (go_ret; exact ⟨⟨_, rfl⟩, by rw [HB.out]; exact MZ.out⟩)
  have hb1 : (rk == 1) = false := beq_eq_false_iff_ne.2 hk1
  clear hk1
  by_cases hs : (0 ≤ rs ∧ rs < (d.sy.length : Int)) ∧ -4294967296 ≤ rd ∧ rd ≤ 4294967296
  case neg =>
    clear M1 HO HOK
    go_wp2
    all_goals (go_ret; exact ⟨⟨_, rfl⟩, by rw [HB.out]; exact MZ.out⟩)
  obtain ⟨k, rfl⟩ : ∃ k : Nat, rs = k := ⟨rs.toNat, by omega⟩
  have hkn : k < d.sy.length := by omega
  obtain ⟨x, hx⟩ : ∃ x, d.sy[k]? = some x := ⟨_, List.getElem?_eq_getElem hkn⟩
  obtain ⟨b, off, hA, hcell⟩ := HO.out.sys.rows.elem k x hx
  have cel : ∀ j v, (symA x).toList[j]? = some v → W.cell? ⟨b, off + k * 9 + j, none⟩ = some v := fun j v hv => hcell j v hv
  have j5 := i5
  rw [hA] at i5
  have hsk := hs.1
  have hs1 := hs.2.1
  have hs2 := hs.2.2
  clear hcell hx HO MZ hs hA
  have Na := Lib.hid (M1.out.newcel 103 #[.string ⟨#[]⟩, .string ⟨#[]⟩, .bool false, .int .i64 0, .bool false, .int .i64 0, .bool false, .int .i64 0, .int .i64 0])
  have Nb := Lib.hid (Na.out.rowc W.heap.size (symA x))
  go_upto_region 6 with (first | (refine wpList_partW rfl 103 _ rfl b (off + k * 9) rfl (symA x) _ cel Try.underlying103 rfl (by kernel_rfl) ?_) | (refine wpList_store_row rfl 103 _ _ rfl W.heap.size (symA x) rfl rfl 103 #[.string ⟨#[]⟩, .string ⟨#[]⟩, .bool false, .int .i64 0, .bool false, .int .i64 0, .bool false, .int .i64 0, .int .i64 0] (Na.out.getc W.heap.size) (by kernel_rfl) rfl (by kernel_rfl) ?_))
  obtain ⟨W5, hW⟩ : ∃ W5, (W.alloc (.cells #[.string ⟨#[]⟩, .string ⟨#[]⟩, .bool false, .int .i64 0, .bool false, .int .i64 0, .bool false, .int .i64 0, .int .i64 0] 103)).setRow W.heap.size (symA x) = W5 := ⟨_, rfl⟩
  have N5 := Nb
  rw [hW] at N5 ⊢
  clear hW Na Nb
  generalize W.heap.size = q at N5 ⊢
  clear i5 r0 r1 r2 r3 cel
  have s3 : W5.cell? ⟨q, 3, none⟩ = some (.int .i64 x.kind) := N5.out.cellat q 3 rfl
  have s6 : W5.cell? ⟨q, 6, none⟩ = some (.bool x.dfd) := N5.out.cellat q 6 rfl
  have s7 : W5.cell? ⟨q, 7, none⟩ = some (.int .i64 x.val) := N5.out.cellat q 7 rfl
  have s8 : W5.cell? ⟨q, 8, none⟩ = some (.int .i64 x.sz) := N5.out.cellat q 8 rfl
  have r0 : W5.cell? ⟨b1, 0, none⟩ = some (.int .i64 ra) := N5.out.cellat b1 0 rfl
  have r1 : W5.cell? ⟨b1, 1, none⟩ = some (.int .i64 rk) := N5.out.cellat b1 1 rfl
  have r2 : W5.cell? ⟨b1, 2, none⟩ = some (.int .i64 (k : Int)) := N5.out.cellat b1 2 rfl
  have r3 : W5.cell? ⟨b1, 3, none⟩ = some (.int .i64 rd) := N5.out.cellat b1 3 rfl
  have i1 : W5.cell? ⟨b0, 1, none⟩ = some (.int .i64 d.fl) := N5.out.cellat b0 1 rfl
  have HSW : Hid (∀ n, wrap64 n = wrap64 n) := Lib.hid (fun _ => rfl)
  clear HSW M1
  obtain ⟨nm, ver, old, sk, weak, vis, dfd, val, sz⟩ := x
  simp only at s3 s6 s7 s8
  rcases (show rk = 0 ∨ rk = 6 ∨ rk = 7 ∨ rk = 3 ∨ rk = 4 ∨ rk = 5 ∨ rk = 2 ∨ ((rk == 0) = false ∧ (rk == 6) = false ∧ (rk == 7) = false ∧ (rk == 3) = false ∧ (rk == 4) = false ∧ (rk == 5) = false ∧ (rk == 2) = false) by simp only [beq_eq_false_iff_ne]; omega) with rfl | rfl | rfl | rfl | rfl | rfl | rfl | ⟨z0, z6, z7, z3, z4, z5, z2⟩
  ·
    by_cases ht : sk = 3
    · have htb : (sk == 3) = true := beq_iff_eq.2 ht
      clear ht
      go_upto_region 23 with (fail)
      go_quiet (fail)
      rename_i nq
      have MZ := Lib.hid (N5.out.stay (below_drewN (Below.refl _ _) nq)).bel
      go_wp2
      (go_ret; exact ⟨⟨_, rfl⟩, by rw [HB.out]; exact MZ.out⟩)
    · have htb : (sk == 3) = false := beq_eq_false_iff_ne.2 ht
      clear ht
      go_upto_region 23 with (fail)
      have M6 := Lib.hid (N5.out.stay (Below.refl _ _).drew)
      have t0 : W5.drew.cell? ⟨b1, 0, none⟩ = some (.int .i64 ra) := M6.out.cellat b1 0 rfl
      refine wp_region_noPanic ?_
      refine wp_region_held_drew (S := SB W5.drew) (by kernel_rfl) (Below.refl _ _) ?_
      intro hS
      refine takeD (i := 0) (v := .bool true) 117 rfl (by kernel_rfl) (by kernel_rfl) (by kernel_rfl) (by kernel_rfl) (fun _ _ _ h => h) (yS_pure (by kernel_rfl) (fun w => by kernel_rfl)) hS ?_
      refine takeD (i := 1) (v := .bool true) 118 rfl (by kernel_rfl) (by kernel_rfl) (by kernel_rfl) (by kernel_rfl) (fun _ _ _ h => h) (yS_pure (by kernel_rfl) (fun w => by kernel_rfl)) hS ?_
      refine takeD (i := 2) 119 rfl (by kernel_rfl) (by kernel_rfl) (by kernel_rfl) (by kernel_rfl) (fun _ _ _ h => h) (yS_row (by kernel_rfl) 39 _ rfl b0 (by kernel_rfl) 39 (imgD d) _ (M6.out.getc b0) Try.underlying39 rfl (by kernel_rfl)) hS ?_
      refine takeD (i := 3) (v := .pointer (some ⟨b1, 0, none⟩)) 120 rfl (by kernel_rfl) (by kernel_rfl) (by kernel_rfl) (by kernel_rfl) (fun _ _ _ h => h) (yS_pure (by kernel_rfl) (fun w => by kernel_rfl)) hS ?_
      refine takeD (i := 4) 121 rfl (by kernel_rfl) (by kernel_rfl) (by kernel_rfl) (by kernel_rfl) (fun _ _ _ h => h) (yS_cell (by kernel_rfl) 3 _ rfl b1 (0) (by kernel_rfl) (.int .i64 ra) t0 _ Try.underlying3 rfl) hS ?_
      refine takeD (i := 5) 122 rfl (by kernel_rfl) (by kernel_rfl) (by kernel_rfl) (by kernel_rfl) (fun _ _ _ h => h) (yS_row (by kernel_rfl) 39 _ rfl b0 (by kernel_rfl) 39 (imgD d) _ (M6.out.getc b0) Try.underlying39 rfl (by kernel_rfl)) hS ?_
      refine takeD (i := 6) 123 rfl (by kernel_rfl) (by kernel_rfl) (by kernel_rfl) (by kernel_rfl) (fun _ _ _ h => h) (yS_row (by kernel_rfl) 116 _ rfl b1 (by kernel_rfl) 116 (rlA ⟨ra, 0, (k : Int), rd⟩) _ (M6.out.getc b1) Try.underlying116 rfl (by kernel_rfl)) hS ?_
      refine takeD (i := 8) (v := .int .i64 0) 125 rfl (by kernel_rfl) (by kernel_rfl) (by kernel_rfl) (by kernel_rfl) (fun _ _ _ h => h) (yS_pure (by kernel_rfl) (fun w => by kernel_rfl)) hS ?_
      refine callD (i := 7) 124 (by kernel_rfl) rfl (by kernel_rfl) (by kernel_rfl) _ _ _ rfl _ (by kernel_rfl) ((wide09_any d P _ (HOK.out _ (M6.out.bel.trans (hS.mono M6.out.le))) ⟨ra, 0, (k : Int), rd⟩).mono ?_)
      rintro e X1 ⟨⟨n1, rfl⟩, hb1⟩
      have hS1 : SB W5.drew X1 := hS.trans (hb1.mono hS.size)
      clear hb1
      refine ⟨_, rfl, hS1, ?_⟩
      clear hS
      have hS := hS1
      clear hS1
      refine callD (i := 9) 126 (by kernel_rfl) rfl (by kernel_rfl) (by kernel_rfl) _ _ _ rfl _ (by kernel_rfl) ((stands_any d.img d.segs d.sl P ra n1 0 _ (HOK.out _ (M6.out.bel.trans (hS.mono M6.out.le))).segs).mono ?_)
      rintro e X2 ⟨⟨b1_, rfl⟩, hb2⟩
      have hS2 : SB W5.drew X2 := hS.trans (hb2.mono hS.size)
      clear hb2
      refine ⟨_, rfl, hS2, ?_⟩
      clear hS
      have hS := hS2
      clear hS2
      refine takeD (i := 10) (v := .bool b1_) 127 rfl (by kernel_rfl) (by kernel_rfl) (by kernel_rfl) (by kernel_rfl) (fun _ _ _ h => h) (yS_pure (by kernel_rfl) (fun w => by kernel_rfl)) hS ?_
      refine takeD (i := 11) (v := .bool b1_) 4 rfl (by kernel_rfl) (by kernel_rfl) (by kernel_rfl) (by kernel_rfl) (fun _ _ _ h => h) (yS_pure (by kernel_rfl) (fun w => by kernel_rfl)) hS ?_
      refine wpAnyH_done (by kernel_rfl) ?_ _
      refine NoPanic.normal ?_
      simp only [Act.put, List.setIfInBounds_toArray, List.set_cons_succ, List.set_cons_zero]
      have MZ := Lib.hid (M6.out.stay hS).bel
      clear hS
      go_wp2
      (go_ret; exact ⟨⟨_, rfl⟩, by rw [HB.out]; exact MZ.out⟩)
  ·
    by_cases ht : sk = 3
    · have htb : (sk == 3) = true := beq_iff_eq.2 ht
      clear ht
      go_upto_region 23 with (fail)
      go_quiet (fail)
      rename_i nq
      have MZ := Lib.hid (N5.out.stay (below_drewN (Below.refl _ _) nq)).bel
      go_wp2
      (go_ret; exact ⟨⟨_, rfl⟩, by rw [HB.out]; exact MZ.out⟩)
    · have htb : (sk == 3) = false := beq_eq_false_iff_ne.2 ht
      clear ht
      go_upto_region 23 with (fail)
      have M6 := Lib.hid (N5.out.stay (Below.refl _ _).drew)
      have t0 : W5.drew.cell? ⟨b1, 0, none⟩ = some (.int .i64 ra) := M6.out.cellat b1 0 rfl
      refine wp_region_noPanic ?_
      refine wp_region_held_drew (S := SB W5.drew) (by kernel_rfl) (Below.refl _ _) ?_
      intro hS
      refine takeD (i := 0) (v := .bool true) 117 rfl (by kernel_rfl) (by kernel_rfl) (by kernel_rfl) (by kernel_rfl) (fun _ _ _ h => h) (yS_pure (by kernel_rfl) (fun w => by kernel_rfl)) hS ?_
      refine takeD (i := 1) (v := .bool true) 118 rfl (by kernel_rfl) (by kernel_rfl) (by kernel_rfl) (by kernel_rfl) (fun _ _ _ h => h) (yS_pure (by kernel_rfl) (fun w => by kernel_rfl)) hS ?_
      refine takeD (i := 2) 119 rfl (by kernel_rfl) (by kernel_rfl) (by kernel_rfl) (by kernel_rfl) (fun _ _ _ h => h) (yS_row (by kernel_rfl) 39 _ rfl b0 (by kernel_rfl) 39 (imgD d) _ (M6.out.getc b0) Try.underlying39 rfl (by kernel_rfl)) hS ?_
      refine takeD (i := 3) (v := .pointer (some ⟨b1, 0, none⟩)) 120 rfl (by kernel_rfl) (by kernel_rfl) (by kernel_rfl) (by kernel_rfl) (fun _ _ _ h => h) (yS_pure (by kernel_rfl) (fun w => by kernel_rfl)) hS ?_
      refine takeD (i := 4) 121 rfl (by kernel_rfl) (by kernel_rfl) (by kernel_rfl) (by kernel_rfl) (fun _ _ _ h => h) (yS_cell (by kernel_rfl) 3 _ rfl b1 (0) (by kernel_rfl) (.int .i64 ra) t0 _ Try.underlying3 rfl) hS ?_
      refine takeD (i := 5) 122 rfl (by kernel_rfl) (by kernel_rfl) (by kernel_rfl) (by kernel_rfl) (fun _ _ _ h => h) (yS_row (by kernel_rfl) 39 _ rfl b0 (by kernel_rfl) 39 (imgD d) _ (M6.out.getc b0) Try.underlying39 rfl (by kernel_rfl)) hS ?_
      refine takeD (i := 6) 123 rfl (by kernel_rfl) (by kernel_rfl) (by kernel_rfl) (by kernel_rfl) (fun _ _ _ h => h) (yS_row (by kernel_rfl) 116 _ rfl b1 (by kernel_rfl) 116 (rlA ⟨ra, 6, (k : Int), rd⟩) _ (M6.out.getc b1) Try.underlying116 rfl (by kernel_rfl)) hS ?_
      refine takeD (i := 8) (v := .int .i64 0) 125 rfl (by kernel_rfl) (by kernel_rfl) (by kernel_rfl) (by kernel_rfl) (fun _ _ _ h => h) (yS_pure (by kernel_rfl) (fun w => by kernel_rfl)) hS ?_
      refine callD (i := 7) 124 (by kernel_rfl) rfl (by kernel_rfl) (by kernel_rfl) _ _ _ rfl _ (by kernel_rfl) ((wide09_any d P _ (HOK.out _ (M6.out.bel.trans (hS.mono M6.out.le))) ⟨ra, 6, (k : Int), rd⟩).mono ?_)
      rintro e X1 ⟨⟨n1, rfl⟩, hb1⟩
      have hS1 : SB W5.drew X1 := hS.trans (hb1.mono hS.size)
      clear hb1
      refine ⟨_, rfl, hS1, ?_⟩
      clear hS
      have hS := hS1
      clear hS1
      refine callD (i := 9) 126 (by kernel_rfl) rfl (by kernel_rfl) (by kernel_rfl) _ _ _ rfl _ (by kernel_rfl) ((stands_any d.img d.segs d.sl P ra n1 0 _ (HOK.out _ (M6.out.bel.trans (hS.mono M6.out.le))).segs).mono ?_)
      rintro e X2 ⟨⟨b1_, rfl⟩, hb2⟩
      have hS2 : SB W5.drew X2 := hS.trans (hb2.mono hS.size)
      clear hb2
      refine ⟨_, rfl, hS2, ?_⟩
      clear hS
      have hS := hS2
      clear hS2
      refine takeD (i := 10) (v := .bool b1_) 127 rfl (by kernel_rfl) (by kernel_rfl) (by kernel_rfl) (by kernel_rfl) (fun _ _ _ h => h) (yS_pure (by kernel_rfl) (fun w => by kernel_rfl)) hS ?_
      refine takeD (i := 11) (v := .bool b1_) 4 rfl (by kernel_rfl) (by kernel_rfl) (by kernel_rfl) (by kernel_rfl) (fun _ _ _ h => h) (yS_pure (by kernel_rfl) (fun w => by kernel_rfl)) hS ?_
      refine wpAnyH_done (by kernel_rfl) ?_ _
      refine NoPanic.normal ?_
      simp only [Act.put, List.setIfInBounds_toArray, List.set_cons_succ, List.set_cons_zero]
      have MZ := Lib.hid (M6.out.stay hS).bel
      clear hS
      go_wp2
      (go_ret; exact ⟨⟨_, rfl⟩, by rw [HB.out]; exact MZ.out⟩)
  ·
    by_cases ha : rd = 0
    · have hab : (rd == 0) = true := beq_iff_eq.2 ha
      clear ha
      go_upto_region 23 with (fail)
      have M6 := Lib.hid (N5.out.stay (Below.refl _ _).drew)
      have t0 : W5.drew.cell? ⟨b1, 0, none⟩ = some (.int .i64 ra) := M6.out.cellat b1 0 rfl
      refine wp_region_noPanic ?_
      refine wp_region_held_drew (S := SB W5.drew) (by kernel_rfl) (Below.refl _ _) ?_
      intro hS
      refine takeD (i := 0) (v := .bool true) 117 rfl (by kernel_rfl) (by kernel_rfl) (by kernel_rfl) (by kernel_rfl) (fun _ _ _ h => h) (yS_pure (by kernel_rfl) (fun w => by kernel_rfl)) hS ?_
      refine takeD (i := 1) (v := .bool true) 118 rfl (by kernel_rfl) (by kernel_rfl) (by kernel_rfl) (by kernel_rfl) (fun _ _ _ h => h) (yS_pure (by kernel_rfl) (fun w => by kernel_rfl)) hS ?_
      refine takeD (i := 2) 119 rfl (by kernel_rfl) (by kernel_rfl) (by kernel_rfl) (by kernel_rfl) (fun _ _ _ h => h) (yS_row (by kernel_rfl) 39 _ rfl b0 (by kernel_rfl) 39 (imgD d) _ (M6.out.getc b0) Try.underlying39 rfl (by kernel_rfl)) hS ?_
      refine takeD (i := 3) (v := .pointer (some ⟨b1, 0, none⟩)) 120 rfl (by kernel_rfl) (by kernel_rfl) (by kernel_rfl) (by kernel_rfl) (fun _ _ _ h => h) (yS_pure (by kernel_rfl) (fun w => by kernel_rfl)) hS ?_
      refine takeD (i := 4) 121 rfl (by kernel_rfl) (by kernel_rfl) (by kernel_rfl) (by kernel_rfl) (fun _ _ _ h => h) (yS_cell (by kernel_rfl) 3 _ rfl b1 (0) (by kernel_rfl) (.int .i64 ra) t0 _ Try.underlying3 rfl) hS ?_
      refine takeD (i := 5) 122 rfl (by kernel_rfl) (by kernel_rfl) (by kernel_rfl) (by kernel_rfl) (fun _ _ _ h => h) (yS_row (by kernel_rfl) 39 _ rfl b0 (by kernel_rfl) 39 (imgD d) _ (M6.out.getc b0) Try.underlying39 rfl (by kernel_rfl)) hS ?_
      refine takeD (i := 6) 123 rfl (by kernel_rfl) (by kernel_rfl) (by kernel_rfl) (by kernel_rfl) (fun _ _ _ h => h) (yS_row (by kernel_rfl) 116 _ rfl b1 (by kernel_rfl) 116 (rlA ⟨ra, 7, (k : Int), rd⟩) _ (M6.out.getc b1) Try.underlying116 rfl (by kernel_rfl)) hS ?_
      refine takeD (i := 8) (v := .int .i64 0) 125 rfl (by kernel_rfl) (by kernel_rfl) (by kernel_rfl) (by kernel_rfl) (fun _ _ _ h => h) (yS_pure (by kernel_rfl) (fun w => by kernel_rfl)) hS ?_
      refine callD (i := 7) 124 (by kernel_rfl) rfl (by kernel_rfl) (by kernel_rfl) _ _ _ rfl _ (by kernel_rfl) ((wide09_any d P _ (HOK.out _ (M6.out.bel.trans (hS.mono M6.out.le))) ⟨ra, 7, (k : Int), rd⟩).mono ?_)
      rintro e X1 ⟨⟨n1, rfl⟩, hb1⟩
      have hS1 : SB W5.drew X1 := hS.trans (hb1.mono hS.size)
      clear hb1
      refine ⟨_, rfl, hS1, ?_⟩
      clear hS
      have hS := hS1
      clear hS1
      refine callD (i := 9) 126 (by kernel_rfl) rfl (by kernel_rfl) (by kernel_rfl) _ _ _ rfl _ (by kernel_rfl) ((stands_any d.img d.segs d.sl P ra n1 0 _ (HOK.out _ (M6.out.bel.trans (hS.mono M6.out.le))).segs).mono ?_)
      rintro e X2 ⟨⟨b1_, rfl⟩, hb2⟩
      have hS2 : SB W5.drew X2 := hS.trans (hb2.mono hS.size)
      clear hb2
      refine ⟨_, rfl, hS2, ?_⟩
      clear hS
      have hS := hS2
      clear hS2
      refine takeD (i := 10) (v := .bool b1_) 127 rfl (by kernel_rfl) (by kernel_rfl) (by kernel_rfl) (by kernel_rfl) (fun _ _ _ h => h) (yS_pure (by kernel_rfl) (fun w => by kernel_rfl)) hS ?_
      refine takeD (i := 11) (v := .bool b1_) 4 rfl (by kernel_rfl) (by kernel_rfl) (by kernel_rfl) (by kernel_rfl) (fun _ _ _ h => h) (yS_pure (by kernel_rfl) (fun w => by kernel_rfl)) hS ?_
      refine wpAnyH_done (by kernel_rfl) ?_ _
      refine NoPanic.normal ?_
      simp only [Act.put, List.setIfInBounds_toArray, List.set_cons_succ, List.set_cons_zero]
      have MZ := Lib.hid (M6.out.stay hS).bel
      clear hS
      go_wp2
      (go_ret; exact ⟨⟨_, rfl⟩, by rw [HB.out]; exact MZ.out⟩)
    · have hab : (rd == 0) = false := beq_eq_false_iff_ne.2 ha
      clear ha
      go_upto_region 23 with (fail)
      go_quiet (fail)
      rename_i nq
      have MZ := Lib.hid (N5.out.stay (below_drewN (Below.refl _ _) nq)).bel
      go_wp2
      (go_ret; exact ⟨⟨_, rfl⟩, by rw [HB.out]; exact MZ.out⟩)
  ·
    by_cases ht : sk = 3
    · have htb : (sk == 3) = true := beq_iff_eq.2 ht
      clear ht
      by_cases ha : rd = 0
      · have hab : (rd == 0) = true := beq_iff_eq.2 ha
        clear ha
        go_upto_region 23 with (fail)
        have M6 := Lib.hid (N5.out.stay (Below.refl _ _).drew)
        have t0 : W5.drew.cell? ⟨b1, 0, none⟩ = some (.int .i64 ra) := M6.out.cellat b1 0 rfl
        refine wp_region_noPanic ?_
        refine wp_region_held_drew (S := SB W5.drew) (by kernel_rfl) (Below.refl _ _) ?_
        intro hS
        refine takeD (i := 0) (v := .bool true) 117 rfl (by kernel_rfl) (by kernel_rfl) (by kernel_rfl) (by kernel_rfl) (fun _ _ _ h => h) (yS_pure (by kernel_rfl) (fun w => by kernel_rfl)) hS ?_
        refine takeD (i := 1) (v := .bool true) 118 rfl (by kernel_rfl) (by kernel_rfl) (by kernel_rfl) (by kernel_rfl) (fun _ _ _ h => h) (yS_pure (by kernel_rfl) (fun w => by kernel_rfl)) hS ?_
        refine takeD (i := 2) 119 rfl (by kernel_rfl) (by kernel_rfl) (by kernel_rfl) (by kernel_rfl) (fun _ _ _ h => h) (yS_row (by kernel_rfl) 39 _ rfl b0 (by kernel_rfl) 39 (imgD d) _ (M6.out.getc b0) Try.underlying39 rfl (by kernel_rfl)) hS ?_
        refine takeD (i := 3) (v := .pointer (some ⟨b1, 0, none⟩)) 120 rfl (by kernel_rfl) (by kernel_rfl) (by kernel_rfl) (by kernel_rfl) (fun _ _ _ h => h) (yS_pure (by kernel_rfl) (fun w => by kernel_rfl)) hS ?_
        refine takeD (i := 4) 121 rfl (by kernel_rfl) (by kernel_rfl) (by kernel_rfl) (by kernel_rfl) (fun _ _ _ h => h) (yS_cell (by kernel_rfl) 3 _ rfl b1 (0) (by kernel_rfl) (.int .i64 ra) t0 _ Try.underlying3 rfl) hS ?_
        refine takeD (i := 5) 122 rfl (by kernel_rfl) (by kernel_rfl) (by kernel_rfl) (by kernel_rfl) (fun _ _ _ h => h) (yS_row (by kernel_rfl) 39 _ rfl b0 (by kernel_rfl) 39 (imgD d) _ (M6.out.getc b0) Try.underlying39 rfl (by kernel_rfl)) hS ?_
        refine takeD (i := 6) 123 rfl (by kernel_rfl) (by kernel_rfl) (by kernel_rfl) (by kernel_rfl) (fun _ _ _ h => h) (yS_row (by kernel_rfl) 116 _ rfl b1 (by kernel_rfl) 116 (rlA ⟨ra, 3, (k : Int), rd⟩) _ (M6.out.getc b1) Try.underlying116 rfl (by kernel_rfl)) hS ?_
        refine takeD (i := 8) (v := .int .i64 0) 125 rfl (by kernel_rfl) (by kernel_rfl) (by kernel_rfl) (by kernel_rfl) (fun _ _ _ h => h) (yS_pure (by kernel_rfl) (fun w => by kernel_rfl)) hS ?_
        refine callD (i := 7) 124 (by kernel_rfl) rfl (by kernel_rfl) (by kernel_rfl) _ _ _ rfl _ (by kernel_rfl) ((wide09_any d P _ (HOK.out _ (M6.out.bel.trans (hS.mono M6.out.le))) ⟨ra, 3, (k : Int), rd⟩).mono ?_)
        rintro e X1 ⟨⟨n1, rfl⟩, hb1⟩
        have hS1 : SB W5.drew X1 := hS.trans (hb1.mono hS.size)
        clear hb1
        refine ⟨_, rfl, hS1, ?_⟩
        clear hS
        have hS := hS1
        clear hS1
        refine callD (i := 9) 126 (by kernel_rfl) rfl (by kernel_rfl) (by kernel_rfl) _ _ _ rfl _ (by kernel_rfl) ((stands_any d.img d.segs d.sl P ra n1 0 _ (HOK.out _ (M6.out.bel.trans (hS.mono M6.out.le))).segs).mono ?_)
        rintro e X2 ⟨⟨b1_, rfl⟩, hb2⟩
        have hS2 : SB W5.drew X2 := hS.trans (hb2.mono hS.size)
        clear hb2
        refine ⟨_, rfl, hS2, ?_⟩
        clear hS
        have hS := hS2
        clear hS2
        refine takeD (i := 10) (v := .bool b1_) 127 rfl (by kernel_rfl) (by kernel_rfl) (by kernel_rfl) (by kernel_rfl) (fun _ _ _ h => h) (yS_pure (by kernel_rfl) (fun w => by kernel_rfl)) hS ?_
        refine takeD (i := 11) (v := .bool b1_) 4 rfl (by kernel_rfl) (by kernel_rfl) (by kernel_rfl) (by kernel_rfl) (fun _ _ _ h => h) (yS_pure (by kernel_rfl) (fun w => by kernel_rfl)) hS ?_
        refine wpAnyH_done (by kernel_rfl) ?_ _
        refine NoPanic.normal ?_
        simp only [Act.put, List.setIfInBounds_toArray, List.set_cons_succ, List.set_cons_zero]
        have MZ := Lib.hid (M6.out.stay hS).bel
        clear hS
        go_wp2
        (go_ret; exact ⟨⟨_, rfl⟩, by rw [HB.out]; exact MZ.out⟩)
      · have hab : (rd == 0) = false := beq_eq_false_iff_ne.2 ha
        clear ha
        go_upto_region 23 with (fail)
        go_quiet (fail)
        rename_i nq
        have MZ := Lib.hid (N5.out.stay (below_drewN (Below.refl _ _) nq)).bel
        go_wp2
        (go_ret; exact ⟨⟨_, rfl⟩, by rw [HB.out]; exact MZ.out⟩)
    · have htb : (sk == 3) = false := beq_eq_false_iff_ne.2 ht
      clear ht
      go_upto_region 23 with (fail)
      go_quiet (fail)
      rename_i nq
      have MZ := Lib.hid (N5.out.stay (below_drewN (Below.refl _ _) nq)).bel
      go_wp2
      (go_ret; exact ⟨⟨_, rfl⟩, by rw [HB.out]; exact MZ.out⟩)
  ·
    by_cases ht : sk = 3
    · have htb : (sk == 3) = true := beq_iff_eq.2 ht
      clear ht
      go_upto_region 23 with (fail)
      have M6 := Lib.hid (N5.out.stay (Below.refl _ _).drew)
      have t0 : W5.drew.cell? ⟨b1, 0, none⟩ = some (.int .i64 ra) := M6.out.cellat b1 0 rfl
      refine wp_region_noPanic ?_
      refine wp_region_held_drew (S := SB W5.drew) (by kernel_rfl) (Below.refl _ _) ?_
      intro hS
      refine takeD (i := 0) (v := .bool true) 117 rfl (by kernel_rfl) (by kernel_rfl) (by kernel_rfl) (by kernel_rfl) (fun _ _ _ h => h) (yS_pure (by kernel_rfl) (fun w => by kernel_rfl)) hS ?_
      refine takeD (i := 1) (v := .bool true) 118 rfl (by kernel_rfl) (by kernel_rfl) (by kernel_rfl) (by kernel_rfl) (fun _ _ _ h => h) (yS_pure (by kernel_rfl) (fun w => by kernel_rfl)) hS ?_
      refine takeD (i := 2) 119 rfl (by kernel_rfl) (by kernel_rfl) (by kernel_rfl) (by kernel_rfl) (fun _ _ _ h => h) (yS_row (by kernel_rfl) 39 _ rfl b0 (by kernel_rfl) 39 (imgD d) _ (M6.out.getc b0) Try.underlying39 rfl (by kernel_rfl)) hS ?_
      refine takeD (i := 3) (v := .pointer (some ⟨b1, 0, none⟩)) 120 rfl (by kernel_rfl) (by kernel_rfl) (by kernel_rfl) (by kernel_rfl) (fun _ _ _ h => h) (yS_pure (by kernel_rfl) (fun w => by kernel_rfl)) hS ?_
      refine takeD (i := 4) 121 rfl (by kernel_rfl) (by kernel_rfl) (by kernel_rfl) (by kernel_rfl) (fun _ _ _ h => h) (yS_cell (by kernel_rfl) 3 _ rfl b1 (0) (by kernel_rfl) (.int .i64 ra) t0 _ Try.underlying3 rfl) hS ?_
      refine takeD (i := 5) 122 rfl (by kernel_rfl) (by kernel_rfl) (by kernel_rfl) (by kernel_rfl) (fun _ _ _ h => h) (yS_row (by kernel_rfl) 39 _ rfl b0 (by kernel_rfl) 39 (imgD d) _ (M6.out.getc b0) Try.underlying39 rfl (by kernel_rfl)) hS ?_
      refine takeD (i := 6) 123 rfl (by kernel_rfl) (by kernel_rfl) (by kernel_rfl) (by kernel_rfl) (fun _ _ _ h => h) (yS_row (by kernel_rfl) 116 _ rfl b1 (by kernel_rfl) 116 (rlA ⟨ra, 4, (k : Int), rd⟩) _ (M6.out.getc b1) Try.underlying116 rfl (by kernel_rfl)) hS ?_
      refine takeD (i := 8) (v := .int .i64 0) 125 rfl (by kernel_rfl) (by kernel_rfl) (by kernel_rfl) (by kernel_rfl) (fun _ _ _ h => h) (yS_pure (by kernel_rfl) (fun w => by kernel_rfl)) hS ?_
      refine callD (i := 7) 124 (by kernel_rfl) rfl (by kernel_rfl) (by kernel_rfl) _ _ _ rfl _ (by kernel_rfl) ((wide09_any d P _ (HOK.out _ (M6.out.bel.trans (hS.mono M6.out.le))) ⟨ra, 4, (k : Int), rd⟩).mono ?_)
      rintro e X1 ⟨⟨n1, rfl⟩, hb1⟩
      have hS1 : SB W5.drew X1 := hS.trans (hb1.mono hS.size)
      clear hb1
      refine ⟨_, rfl, hS1, ?_⟩
      clear hS
      have hS := hS1
      clear hS1
      refine callD (i := 9) 126 (by kernel_rfl) rfl (by kernel_rfl) (by kernel_rfl) _ _ _ rfl _ (by kernel_rfl) ((stands_any d.img d.segs d.sl P ra n1 0 _ (HOK.out _ (M6.out.bel.trans (hS.mono M6.out.le))).segs).mono ?_)
      rintro e X2 ⟨⟨b1_, rfl⟩, hb2⟩
      have hS2 : SB W5.drew X2 := hS.trans (hb2.mono hS.size)
      clear hb2
      refine ⟨_, rfl, hS2, ?_⟩
      clear hS
      have hS := hS2
      clear hS2
      refine takeD (i := 10) (v := .bool b1_) 127 rfl (by kernel_rfl) (by kernel_rfl) (by kernel_rfl) (by kernel_rfl) (fun _ _ _ h => h) (yS_pure (by kernel_rfl) (fun w => by kernel_rfl)) hS ?_
      refine takeD (i := 11) (v := .bool b1_) 4 rfl (by kernel_rfl) (by kernel_rfl) (by kernel_rfl) (by kernel_rfl) (fun _ _ _ h => h) (yS_pure (by kernel_rfl) (fun w => by kernel_rfl)) hS ?_
      refine wpAnyH_done (by kernel_rfl) ?_ _
      refine NoPanic.normal ?_
      simp only [Act.put, List.setIfInBounds_toArray, List.set_cons_succ, List.set_cons_zero]
      have MZ := Lib.hid (M6.out.stay hS).bel
      clear hS
      go_wp2
      (go_ret; exact ⟨⟨_, rfl⟩, by rw [HB.out]; exact MZ.out⟩)
    · have htb : (sk == 3) = false := beq_eq_false_iff_ne.2 ht
      clear ht
      go_upto_region 23 with (fail)
      go_quiet (fail)
      rename_i nq
      have MZ := Lib.hid (N5.out.stay (below_drewN (Below.refl _ _) nq)).bel
      go_wp2
      (go_ret; exact ⟨⟨_, rfl⟩, by rw [HB.out]; exact MZ.out⟩)
  ·
    by_cases ht : sk = 3
    · have htb : (sk == 3) = true := beq_iff_eq.2 ht
      clear ht
      go_upto_region 23 with (fail)
      have M6 := Lib.hid (N5.out.stay (Below.refl _ _).drew)
      have t0 : W5.drew.cell? ⟨b1, 0, none⟩ = some (.int .i64 ra) := M6.out.cellat b1 0 rfl
      refine wp_region_noPanic ?_
      refine wp_region_held_drew (S := SB W5.drew) (by kernel_rfl) (Below.refl _ _) ?_
      intro hS
      refine takeD (i := 0) (v := .bool true) 117 rfl (by kernel_rfl) (by kernel_rfl) (by kernel_rfl) (by kernel_rfl) (fun _ _ _ h => h) (yS_pure (by kernel_rfl) (fun w => by kernel_rfl)) hS ?_
      refine takeD (i := 1) (v := .bool true) 118 rfl (by kernel_rfl) (by kernel_rfl) (by kernel_rfl) (by kernel_rfl) (fun _ _ _ h => h) (yS_pure (by kernel_rfl) (fun w => by kernel_rfl)) hS ?_
      refine takeD (i := 2) 119 rfl (by kernel_rfl) (by kernel_rfl) (by kernel_rfl) (by kernel_rfl) (fun _ _ _ h => h) (yS_row (by kernel_rfl) 39 _ rfl b0 (by kernel_rfl) 39 (imgD d) _ (M6.out.getc b0) Try.underlying39 rfl (by kernel_rfl)) hS ?_
      refine takeD (i := 3) (v := .pointer (some ⟨b1, 0, none⟩)) 120 rfl (by kernel_rfl) (by kernel_rfl) (by kernel_rfl) (by kernel_rfl) (fun _ _ _ h => h) (yS_pure (by kernel_rfl) (fun w => by kernel_rfl)) hS ?_
      refine takeD (i := 4) 121 rfl (by kernel_rfl) (by kernel_rfl) (by kernel_rfl) (by kernel_rfl) (fun _ _ _ h => h) (yS_cell (by kernel_rfl) 3 _ rfl b1 (0) (by kernel_rfl) (.int .i64 ra) t0 _ Try.underlying3 rfl) hS ?_
      refine takeD (i := 5) 122 rfl (by kernel_rfl) (by kernel_rfl) (by kernel_rfl) (by kernel_rfl) (fun _ _ _ h => h) (yS_row (by kernel_rfl) 39 _ rfl b0 (by kernel_rfl) 39 (imgD d) _ (M6.out.getc b0) Try.underlying39 rfl (by kernel_rfl)) hS ?_
      refine takeD (i := 6) 123 rfl (by kernel_rfl) (by kernel_rfl) (by kernel_rfl) (by kernel_rfl) (fun _ _ _ h => h) (yS_row (by kernel_rfl) 116 _ rfl b1 (by kernel_rfl) 116 (rlA ⟨ra, 5, (k : Int), rd⟩) _ (M6.out.getc b1) Try.underlying116 rfl (by kernel_rfl)) hS ?_
      refine takeD (i := 8) (v := .int .i64 0) 125 rfl (by kernel_rfl) (by kernel_rfl) (by kernel_rfl) (by kernel_rfl) (fun _ _ _ h => h) (yS_pure (by kernel_rfl) (fun w => by kernel_rfl)) hS ?_
      refine callD (i := 7) 124 (by kernel_rfl) rfl (by kernel_rfl) (by kernel_rfl) _ _ _ rfl _ (by kernel_rfl) ((wide09_any d P _ (HOK.out _ (M6.out.bel.trans (hS.mono M6.out.le))) ⟨ra, 5, (k : Int), rd⟩).mono ?_)
      rintro e X1 ⟨⟨n1, rfl⟩, hb1⟩
      have hS1 : SB W5.drew X1 := hS.trans (hb1.mono hS.size)
      clear hb1
      refine ⟨_, rfl, hS1, ?_⟩
      clear hS
      have hS := hS1
      clear hS1
      refine callD (i := 9) 126 (by kernel_rfl) rfl (by kernel_rfl) (by kernel_rfl) _ _ _ rfl _ (by kernel_rfl) ((stands_any d.img d.segs d.sl P ra n1 0 _ (HOK.out _ (M6.out.bel.trans (hS.mono M6.out.le))).segs).mono ?_)
      rintro e X2 ⟨⟨b1_, rfl⟩, hb2⟩
      have hS2 : SB W5.drew X2 := hS.trans (hb2.mono hS.size)
      clear hb2
      refine ⟨_, rfl, hS2, ?_⟩
      clear hS
      have hS := hS2
      clear hS2
      refine takeD (i := 10) (v := .bool b1_) 127 rfl (by kernel_rfl) (by kernel_rfl) (by kernel_rfl) (by kernel_rfl) (fun _ _ _ h => h) (yS_pure (by kernel_rfl) (fun w => by kernel_rfl)) hS ?_
      refine takeD (i := 11) (v := .bool b1_) 4 rfl (by kernel_rfl) (by kernel_rfl) (by kernel_rfl) (by kernel_rfl) (fun _ _ _ h => h) (yS_pure (by kernel_rfl) (fun w => by kernel_rfl)) hS ?_
      refine wpAnyH_done (by kernel_rfl) ?_ _
      refine NoPanic.normal ?_
      simp only [Act.put, List.setIfInBounds_toArray, List.set_cons_succ, List.set_cons_zero]
      have MZ := Lib.hid (M6.out.stay hS).bel
      clear hS
      go_wp2
      (go_ret; exact ⟨⟨_, rfl⟩, by rw [HB.out]; exact MZ.out⟩)
    · have htb : (sk == 3) = false := beq_eq_false_iff_ne.2 ht
      clear ht
      go_upto_region 23 with (fail)
      go_quiet (fail)
      rename_i nq
      have MZ := Lib.hid (N5.out.stay (below_drewN (Below.refl _ _) nq)).bel
      go_wp2
      (go_ret; exact ⟨⟨_, rfl⟩, by rw [HB.out]; exact MZ.out⟩)
  ·
    by_cases hv2 : sk = 2
    · have hv2b : (sk == 2) = true := beq_iff_eq.2 hv2
      clear hv2
      cases dfd
      ·
        go_upto_region 23 with (fail)
        go_quiet (fail)
        rename_i nq
        have MZ := Lib.hid (N5.out.stay (below_drewN (Below.refl _ _) nq)).bel
        go_wp2
        (go_ret; exact ⟨⟨_, rfl⟩, by rw [HB.out]; exact MZ.out⟩)
      ·
        by_cases hz : 1 ≤ sz
        · have hzb : decide (1 ≤ sz) = true := decide_eq_true hz
          by_cases hv : val = ra
          · have hvb : (val == ra) = true := beq_iff_eq.2 hv
            clear hv
            by_cases ha : rd = 0
            · have hab : (rd == 0) = true := beq_iff_eq.2 ha
              clear ha
              by_cases hf : d.fl.tmod 2 = 1
              · have hfb : (d.fl.tmod 2 == 1) = true := beq_iff_eq.2 hf
                clear hf
                go_upto_region 23 with (fail)
                have M6 := Lib.hid (N5.out.stay (Below.refl _ _).drew)
                have t0 : W5.drew.cell? ⟨b1, 0, none⟩ = some (.int .i64 ra) := M6.out.cellat b1 0 rfl
                refine wp_region_noPanic ?_
                refine wp_region_held_drew (S := SB W5.drew) (by kernel_rfl) (Below.refl _ _) ?_
                intro hS
                refine takeD (i := 0) (v := .bool true) 117 rfl (by kernel_rfl) (by kernel_rfl) (by kernel_rfl) (by kernel_rfl) (fun _ _ _ h => h) (yS_pure (by kernel_rfl) (fun w => by kernel_rfl)) hS ?_
                refine takeD (i := 1) (v := .bool true) 118 rfl (by kernel_rfl) (by kernel_rfl) (by kernel_rfl) (by kernel_rfl) (fun _ _ _ h => h) (yS_pure (by kernel_rfl) (fun w => by kernel_rfl)) hS ?_
                refine takeD (i := 2) 119 rfl (by kernel_rfl) (by kernel_rfl) (by kernel_rfl) (by kernel_rfl) (fun _ _ _ h => h) (yS_row (by kernel_rfl) 39 _ rfl b0 (by kernel_rfl) 39 (imgD d) _ (M6.out.getc b0) Try.underlying39 rfl (by kernel_rfl)) hS ?_
                refine takeD (i := 3) (v := .pointer (some ⟨b1, 0, none⟩)) 120 rfl (by kernel_rfl) (by kernel_rfl) (by kernel_rfl) (by kernel_rfl) (fun _ _ _ h => h) (yS_pure (by kernel_rfl) (fun w => by kernel_rfl)) hS ?_
                refine takeD (i := 4) 121 rfl (by kernel_rfl) (by kernel_rfl) (by kernel_rfl) (by kernel_rfl) (fun _ _ _ h => h) (yS_cell (by kernel_rfl) 3 _ rfl b1 (0) (by kernel_rfl) (.int .i64 ra) t0 _ Try.underlying3 rfl) hS ?_
                refine takeD (i := 5) 122 rfl (by kernel_rfl) (by kernel_rfl) (by kernel_rfl) (by kernel_rfl) (fun _ _ _ h => h) (yS_row (by kernel_rfl) 39 _ rfl b0 (by kernel_rfl) 39 (imgD d) _ (M6.out.getc b0) Try.underlying39 rfl (by kernel_rfl)) hS ?_
                refine takeD (i := 6) 123 rfl (by kernel_rfl) (by kernel_rfl) (by kernel_rfl) (by kernel_rfl) (fun _ _ _ h => h) (yS_row (by kernel_rfl) 116 _ rfl b1 (by kernel_rfl) 116 (rlA ⟨ra, 2, (k : Int), rd⟩) _ (M6.out.getc b1) Try.underlying116 rfl (by kernel_rfl)) hS ?_
                refine takeD (i := 8) (v := .int .i64 2) 125 rfl (by kernel_rfl) (by kernel_rfl) (by kernel_rfl) (by kernel_rfl) (fun _ _ _ h => h) (yS_pure (by kernel_rfl) (fun w => by kernel_rfl)) hS ?_
                refine callD (i := 7) 124 (by kernel_rfl) rfl (by kernel_rfl) (by kernel_rfl) _ _ _ rfl _ (by kernel_rfl) ((wide09_any d P _ (HOK.out _ (M6.out.bel.trans (hS.mono M6.out.le))) ⟨ra, 2, (k : Int), rd⟩).mono ?_)
                rintro e X1 ⟨⟨n1, rfl⟩, hb1⟩
                have hS1 : SB W5.drew X1 := hS.trans (hb1.mono hS.size)
                clear hb1
                refine ⟨_, rfl, hS1, ?_⟩
                clear hS
                have hS := hS1
                clear hS1
                refine callD (i := 9) 126 (by kernel_rfl) rfl (by kernel_rfl) (by kernel_rfl) _ _ _ rfl _ (by kernel_rfl) ((stands_any d.img d.segs d.sl P ra n1 2 _ (HOK.out _ (M6.out.bel.trans (hS.mono M6.out.le))).segs).mono ?_)
                rintro e X2 ⟨⟨b1_, rfl⟩, hb2⟩
                have hS2 : SB W5.drew X2 := hS.trans (hb2.mono hS.size)
                clear hb2
                refine ⟨_, rfl, hS2, ?_⟩
                clear hS
                have hS := hS2
                clear hS2
                refine takeD (i := 10) (v := .bool b1_) 127 rfl (by kernel_rfl) (by kernel_rfl) (by kernel_rfl) (by kernel_rfl) (fun _ _ _ h => h) (yS_pure (by kernel_rfl) (fun w => by kernel_rfl)) hS ?_
                refine takeD (i := 11) (v := .bool b1_) 4 rfl (by kernel_rfl) (by kernel_rfl) (by kernel_rfl) (by kernel_rfl) (fun _ _ _ h => h) (yS_pure (by kernel_rfl) (fun w => by kernel_rfl)) hS ?_
                refine wpAnyH_done (by kernel_rfl) ?_ _
                refine NoPanic.normal ?_
                simp only [Act.put, List.setIfInBounds_toArray, List.set_cons_succ, List.set_cons_zero]
                have MZ := Lib.hid (M6.out.stay hS).bel
                clear hS
                go_wp2
                (go_ret; exact ⟨⟨_, rfl⟩, by rw [HB.out]; exact MZ.out⟩)
              · have hfb : (d.fl.tmod 2 == 1) = false := beq_eq_false_iff_ne.2 hf
                clear hf
                go_upto_region 23 with (fail)
                go_quiet (fail)
                rename_i nq
                have MZ := Lib.hid (N5.out.stay (below_drewN (Below.refl _ _) nq)).bel
                go_wp2
                (go_ret; exact ⟨⟨_, rfl⟩, by rw [HB.out]; exact MZ.out⟩)
            · have hab : (rd == 0) = false := beq_eq_false_iff_ne.2 ha
              clear ha
              go_upto_region 23 with (fail)
              go_quiet (fail)
              rename_i nq
              have MZ := Lib.hid (N5.out.stay (below_drewN (Below.refl _ _) nq)).bel
              go_wp2
              (go_ret; exact ⟨⟨_, rfl⟩, by rw [HB.out]; exact MZ.out⟩)
          · have hvb : (val == ra) = false := beq_eq_false_iff_ne.2 hv
            clear hv
            go_upto_region 23 with (fail)
            go_quiet (fail)
            rename_i nq
            have MZ := Lib.hid (N5.out.stay (below_drewN (Below.refl _ _) nq)).bel
            go_wp2
            (go_ret; exact ⟨⟨_, rfl⟩, by rw [HB.out]; exact MZ.out⟩)
        · have hzb : decide (1 ≤ sz) = false := decide_eq_false hz
          go_upto_region 23 with (fail)
          go_quiet (fail)
          rename_i nq
          have MZ := Lib.hid (N5.out.stay (below_drewN (Below.refl _ _) nq)).bel
          go_wp2
          (go_ret; exact ⟨⟨_, rfl⟩, by rw [HB.out]; exact MZ.out⟩)
    · have hv2b : (sk == 2) = false := beq_eq_false_iff_ne.2 hv2
      clear hv2
      go_upto_region 23 with (fail)
      go_quiet (fail)
      rename_i nq
      have MZ := Lib.hid (N5.out.stay (below_drewN (Below.refl _ _) nq)).bel
      go_wp2
      (go_ret; exact ⟨⟨_, rfl⟩, by rw [HB.out]; exact MZ.out⟩)
  ·
    go_upto_region 23 with (fail)
    go_quiet (fail)
    rename_i nq
    have MZ := Lib.hid (N5.out.stay (below_drewN (Below.refl _ _) nq)).bel
    go_wp2
    (go_ret; exact ⟨⟨_, rfl⟩, by rw [HB.out]; exact MZ.out⟩)
end Go.Proofs.Ytlkelfaokbdddaa
