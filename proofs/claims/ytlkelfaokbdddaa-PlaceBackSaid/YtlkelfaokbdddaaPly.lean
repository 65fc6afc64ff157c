/-
  Layer 15: the walk of PlaceBack.
  Conditions: none. (My own text.)
-/
import Derived.Test.YtlkelfaokbdddaaPlw
namespace Go.Proofs.Ytlkelfaokbdddaa
open Go.RowKit Spm
set_option linter.unusedVariables false
set_option linter.unusedSimpArgs false

attribute [local irreducible] wpList
set_option maxRecDepth 100000 in
set_option maxHeartbeats 4000000 in
theorem back15_walk (v : Value) (l : List ActM) (d : ImgD) (w : World) (hv : ActsV w w.heap.size v l) (h : ImgOk w (fun k => k < w.heap.size) d) : Calls Try.prog 4 #[v, .agg (imgD d)] w fun e w' => e = .returned (.bool true) ∧ Below w.heap.size w w' := by
  have HSEG := Lib.hid h.segs
  have HV := Lib.hid hv
  clear hv
  have HOK := Lib.hid (fun (wr : World) (hb : Below w.heap.size w wr) => h.below hb)
  clear h
  rw [show imgD d = #[.string d.nm, .int .i64 d.fl, .slice d.sA d.sl.length d.sC, .slice d.nA d.nd.length d.nC, .slice d.rA d.rp.length d.rC, .slice d.yA d.sy.length d.yC, .slice d.bA d.bk.length d.bC, .slice d.wA d.wd.length d.wC, .int .i64 d.sh, .slice d.lA d.rl.length d.lC, .slice d.tA d.st.length d.tC, .slice d.iA d.ini.length d.iC, .slice d.fA d.fin.length d.fC, .slice d.xA d.xn d.xC, .int .i64 d.tz] from rfl]
  have M0 := Lib.hid ((Has.start (Below.refl w.heap.size w) (Nat.le_refl _)).newcel 39 #[.string d.nm, .int .i64 d.fl, .slice d.sA d.sl.length d.sC, .slice d.nA d.nd.length d.nC, .slice d.rA d.rp.length d.rC, .slice d.yA d.sy.length d.yC, .slice d.bA d.bk.length d.bC, .slice d.wA d.wd.length d.wC, .int .i64 d.sh, .slice d.lA d.rl.length d.lC, .slice d.tA d.st.length d.tC, .slice d.iA d.ini.length d.iC, .slice d.fA d.fin.length d.fC, .slice d.xA d.xn d.xC, .int .i64 d.tz])
  go_enter Try.func4, Try.ntmps4
  go_upto_region 1 with (fail)
  obtain ⟨W, hW⟩ : ∃ W, (w.alloc (.cells #[.string d.nm, .int .i64 d.fl, .slice d.sA d.sl.length d.sC, .slice d.nA d.nd.length d.nC, .slice d.rA d.rp.length d.rC, .slice d.yA d.sy.length d.yC, .slice d.bA d.bk.length d.bC, .slice d.wA d.wd.length d.wC, .int .i64 d.sh, .slice d.lA d.rl.length d.lC, .slice d.tA d.st.length d.tC, .slice d.iA d.ini.length d.iC, .slice d.fA d.fin.length d.fC, .slice d.xA d.xn d.xC, .int .i64 d.tz] 39)) = W := ⟨_, rfl⟩
  rw [hW] at M0 ⊢
  clear hW
  generalize hB : w.heap.size = b0 at M0 HOK HV HSEG ⊢
  have HB := Lib.hid hB
  clear hB
  have M1 : Hid (Has b0 w W (Star (Cel b0 39 (imgD d)) Emp)) := M0
  clear M0
  go_wp2_with fail
  refine (awake15 W).mono ?_
  rintro e w1 ⟨rfl, hb⟩
  have M2 := Lib.hid (M1.out.stay hb)
  clear hb M1
  go_wp2_with fail
  refine (played_beside M2.out v l HV.out).mono ?_
  rintro e w2 ⟨a, rfl, m⟩
  have M3 := Lib.hid m
  clear m M2 HV
  generalize playS [] (l.map (·.x)) = L at M3
  go_wp2_with (first | (refine wpList_rowW (by kernel_rfl) 39 _ rfl b0 rfl (imgD d) _ (M3.out.getc b0) Try.underlying39 rfl (by kernel_rfl) ?_))
  refine (may09_any d _ w2 (HOK.out _ M3.out.bel)).mono ?_
  rintro e w3 ⟨⟨n, rfl, hn⟩, hb⟩
  have M4 := Lib.hid (M3.out.stay hb)
  have MZ := Lib.hid M4.out.bel
  clear hb M3
  by_cases hn0 : n = 0
  case neg =>
    have hnb : (n != 0) = true := bne_iff_ne.2 hn0
    clear hn0 hn
    go_wp2
    go_ret
    exact ⟨by first | rfl | simp, by rw [HB.out]; exact MZ.out⟩
  have HSK := Lib.hid (hn hn0)
  subst hn0
  clear hn MZ
  have HMI := Lib.hid (fun L4 at4 e4 hR => map_info M4.out.ok HSK.out (L4 := L4) (at4 := at4) (e4 := e4) hR)
  go_wp2_with fail
  refine (own_regions M4.out).mono ?_
  rintro e w4 ⟨v8, rfl, m⟩
  have M5 := Lib.hid m
  clear m M4
  have C1 := Lib.hid (pmap_own (M5.out.pick (Sp a L)) d.img d.segs d.sl HSEG.out (fun s hs => (HSK.out.each s hs).ok))
  have hR0 : ∃ R, mapI L d.sl = R := ⟨_, rfl⟩
  obtain ⟨⟨L4, at4, e4⟩, hR⟩ := hR0
  have HI := Lib.hid (HMI.out _ _ _ hR)
  rw [hR] at C1
  clear hR HMI
  go_wp2_with (first | (refine wpList_rowW (by kernel_rfl) 39 _ rfl b0 rfl (imgD d) _ (M5.out.getc b0) Try.underlying39 rfl (by kernel_rfl) ?_))
  refine (C1.out).mono ?_
  rintro e w5 ⟨rfl, m⟩
  have M6 := Lib.hid m
  clear m C1 M5
  by_cases he : e4 = 0
  case neg =>
    have heb : (e4 != 0) = true := bne_iff_ne.2 he
    obtain ⟨h1, h2, _⟩ := HI.out.1 he
    clear HI he
    subst h1
    subst h2
    go_wp2_with fail
    refine (own_regions M6.out).mono ?_
    rintro e w6 ⟨v9, rfl, m⟩
    have M7 := Lib.hid m
    clear m M6
    go_wp2_with fail
    refine (same_any (M7.out.pick (Rs v8 _)).rs M7.out.rs rfl).mono ?_
    rintro e w7 ⟨rfl, hb⟩
    have MZ := Lib.hid (M7.out.stay hb).bel
    clear hb M7
    go_wp2
    go_ret
    exact ⟨by first | rfl | simp, by rw [HB.out]; exact MZ.out⟩
  obtain ⟨ok4, b4, hst, hun, hue, hlen⟩ := HI.out.2.1 he
  obtain ⟨hu1, hu2⟩ := un_eq (L4 := L4) HSK.out b4 (fun s hs => (hst s hs).1)
  have HU1 := Lib.hid (hu1.trans hun)
  have HU2 := Lib.hid (hu2.trans hue)
  have H64 := Lib.hid HI.out.2.2
  have heb : (e4 != 0) = false := by simp [he]
  clear hst hun hue hu1 hu2 ok4 HI he
  obtain ⟨A8, c8, rfl, _, hm8, _⟩ := ((M6.out.pick (Rs v8 L)).rs).at_
  have hsl8 := HSK.out.n8
  have hL8 : L.length ≤ 9223372036854775807 := by have := ((M6.out.pick (Rs (.slice A8 L.length c8) L)).rs).at_; obtain ⟨A, c, e, h1, h2, _⟩ := this; unfold maxLen at h2; omega
  go_upto_region 9 with (fail)
  have M7 := Lib.hid (M6.out.stay (Below.refl _ _).drew)
  clear M6
  have hS0 : Blk w5.drew b0 39 (imgD d) := M7.out.getc b0
  refine wp_region_noPanic ?_
  refine wp_region_held_drew (S := (fun X => Blk X b0 39 (imgD d))) (by kernel_rfl) hS0 ?_
  intro hS
  refine takeD (i := 0) (v := .pointer (some ⟨a, 0, none⟩)) 47 rfl (by kernel_rfl) (by kernel_rfl) (by kernel_rfl) (by kernel_rfl) (fun _ _ _ h => h) (yG_pure (by kernel_rfl) (fun w => by kernel_rfl)) hS ?_
  refine takeD (i := 3) (v := .slice A8 L.length c8) 50 rfl (by kernel_rfl) (by kernel_rfl) (by kernel_rfl) (by kernel_rfl) (fun _ _ _ h => h) (yG_pure (by kernel_rfl) (fun w => by kernel_rfl)) hS ?_
  refine takeD (i := 4) (v := .int .i64 (L.length : Int)) 51 rfl (by kernel_rfl) (by kernel_rfl) (by kernel_rfl) (by kernel_rfl) (fun _ _ _ h => h) (yG_pure (by kernel_rfl) (fun w => by kernel_rfl)) hS ?_
  refine takeD (i := 5) (v := .pointer (some ⟨b0, 2, none⟩)) 52 rfl (by kernel_rfl) (by kernel_rfl) (by kernel_rfl) (by kernel_rfl) (fun _ _ _ h => h) (yG_pure (by kernel_rfl) (fun w => by kernel_rfl)) hS ?_
  refine takeD (i := 6) 53 rfl (by kernel_rfl) (by kernel_rfl) (by kernel_rfl) (by kernel_rfl) (fun _ _ _ h => h) (yG_cell (by kernel_rfl) 24 _ rfl b0 (2) (by kernel_rfl) (.slice d.sA d.sl.length d.sC) (fun X h => by rw [Blk.cell h]; rfl) _ Try.underlying24 rfl) hS ?_
  refine takeD (i := 7) (v := .int .i64 (d.sl.length : Int)) 54 rfl (by kernel_rfl) (by kernel_rfl) (by kernel_rfl) (by kernel_rfl) (fun _ _ _ h => h) (yG_pure (by kernel_rfl) (fun w => by kernel_rfl)) hS ?_
  obtain ⟨Z, hZ⟩ : ∃ Z, IntKind.i64.wrap ((L.length : Int) + (d.sl.length : Int)) = Z := ⟨_, rfl⟩
  refine takeD (i := 8) (v := .int .i64 Z) 55 rfl (by kernel_rfl) (by kernel_rfl) (by kernel_rfl) (by kernel_rfl) (fun _ _ _ h => h) (yG_pure (by kernel_rfl) (fun w => run_val (show _ = Result.ok (Next.value (.int .i64 (IntKind.i64.wrap ((L.length : Int) + (d.sl.length : Int))))) w by kernel_rfl) (by rw [hZ]))) hS ?_
  refine callD (i := 1) 48 (by kernel_rfl) rfl (by kernel_rfl) (by kernel_rfl) _ _ _ rfl _ (by kernel_rfl) ((own_regions M7.out).mono ?_)
  rintro e X ⟨v9, rfl, m⟩
  have M8 := Lib.hid m
  obtain ⟨A9, c9, rfl, _, hm9, _⟩ := (M8.out.rs).at_
  have hS' : Blk X b0 39 (imgD d) := M8.out.getc b0
  clear m
  have hL9 : L4.length ≤ 9223372036854775807 := by have := (M8.out.rs).at_; obtain ⟨A, c, e, h1, h2, _⟩ := this; unfold maxLen at h2; omega
  have hadd : Hid (Z = (L4.length : Int)) := Lib.hid (by rw [← hZ, IntKind.wrap_i64]; omega)
  refine ⟨_, rfl, hS', ?_⟩
  clear hS
  have hS := hS'
  clear hS'
  refine takeD (i := 2) (v := .int .i64 (L4.length : Int)) 49 rfl (by kernel_rfl) (by kernel_rfl) (by kernel_rfl) (by kernel_rfl) (fun _ _ _ h => h) (yG_pure (by kernel_rfl) (fun w => by kernel_rfl)) hS ?_
  refine takeD (i := 9) (v := .bool true) 56 rfl (by kernel_rfl) (by kernel_rfl) (by kernel_rfl) (by kernel_rfl) (fun _ _ _ h => h) (yG_pure (by kernel_rfl) (fun w => run_val (show _ = Result.ok (Next.value (.bool ((L4.length : Int) == Z))) w by kernel_rfl) (by rw [hadd.out]; simp))) hS ?_
  refine takeD (i := 10) (v := .bool true) 57 rfl (by kernel_rfl) (by kernel_rfl) (by kernel_rfl) (by kernel_rfl) (fun _ _ _ h => h) (yG_pure (by kernel_rfl) (fun w => by kernel_rfl)) hS ?_
  refine takeD (i := 11) (v := .pointer (some ⟨a, 0, none⟩)) 58 rfl (by kernel_rfl) (by kernel_rfl) (by kernel_rfl) (by kernel_rfl) (fun _ _ _ h => h) (yG_pure (by kernel_rfl) (fun w => by kernel_rfl)) hS ?_
  refine takeD (i := 12) (v := .int .i64 at4) 59 rfl (by kernel_rfl) (by kernel_rfl) (by kernel_rfl) (by kernel_rfl) (fun _ _ _ h => h) (yG_pure (by kernel_rfl) (fun w => by kernel_rfl)) hS ?_
  refine takeD (i := 13) 60 rfl (by kernel_rfl) (by kernel_rfl) (by kernel_rfl) (by kernel_rfl) (fun _ _ _ h => h) (yG_row (by kernel_rfl) 39 _ rfl b0 (by kernel_rfl) 39 (imgD d) _ (fun X h => h) Try.underlying39 rfl (by kernel_rfl)) hS ?_
  refine callD (i := 14) 61 (by kernel_rfl) rfl (by kernel_rfl) (by kernel_rfl) _ _ _ rfl _ (by kernel_rfl) ((punmap_own (M8.out.pick (Sp a L4)) at4 H64.out d.img d.segs d.sl HSEG.out).mono ?_)
  rintro e X ⟨rfl, m⟩
  rw [HU1.out] at m
  have M9 := Lib.hid m
  have hS' : Blk X b0 39 (imgD d) := M9.out.getc b0
  clear m
  refine ⟨_, rfl, hS', ?_⟩
  clear hS
  have hS := hS'
  clear hS'
  refine takeD (i := 15) (v := .bool true) 62 rfl (by kernel_rfl) (by kernel_rfl) (by kernel_rfl) (by kernel_rfl) (fun _ _ _ h => h) (yG_pure (by kernel_rfl) (fun w => run_val (show _ = Result.ok (Next.value (.bool (unErrW at4 L4 0 d.sl == 0))) w by kernel_rfl) (by rw [HU2.out]; rfl))) hS ?_
  refine takeD (i := 16) (v := .bool true) 63 rfl (by kernel_rfl) (by kernel_rfl) (by kernel_rfl) (by kernel_rfl) (fun _ _ _ h => h) (yG_pure (by kernel_rfl) (fun w => by kernel_rfl)) hS ?_
  refine takeD (i := 17) (v := .bool true) 64 rfl (by kernel_rfl) (by kernel_rfl) (by kernel_rfl) (by kernel_rfl) (fun _ _ _ h => h) (yG_pure (by kernel_rfl) (fun w => by kernel_rfl)) hS ?_
  refine takeD (i := 18) (v := .slice A8 L.length c8) 65 rfl (by kernel_rfl) (by kernel_rfl) (by kernel_rfl) (by kernel_rfl) (fun _ _ _ h => h) (yG_pure (by kernel_rfl) (fun w => by kernel_rfl)) hS ?_
  refine takeD (i := 19) (v := .pointer (some ⟨a, 0, none⟩)) 66 rfl (by kernel_rfl) (by kernel_rfl) (by kernel_rfl) (by kernel_rfl) (fun _ _ _ h => h) (yG_pure (by kernel_rfl) (fun w => by kernel_rfl)) hS ?_
  refine callD (i := 20) 67 (by kernel_rfl) rfl (by kernel_rfl) (by kernel_rfl) _ _ _ rfl _ (by kernel_rfl) ((own_regions M9.out).mono ?_)
  rintro e X ⟨v10, rfl, m⟩
  have M10 := Lib.hid m
  have hS' : Blk X b0 39 (imgD d) := M10.out.getc b0
  clear m
  refine ⟨_, rfl, hS', ?_⟩
  clear hS
  have hS := hS'
  clear hS'
  refine callD (i := 21) 68 (by kernel_rfl) rfl (by kernel_rfl) (by kernel_rfl) _ _ _ rfl _ (by kernel_rfl) ((same_any (M10.out.pick (Rs (.slice A8 L.length c8) L)).rs M10.out.rs rfl).mono ?_)
  rintro e X ⟨rfl, hb⟩
  have M11 := Lib.hid (M10.out.stay hb)
  have hS' : Blk X b0 39 (imgD d) := M11.out.getc b0
  clear hb
  refine ⟨_, rfl, hS', ?_⟩
  clear hS
  have hS := hS'
  clear hS'
  refine takeD (i := 22) (v := .bool true) 69 rfl (by kernel_rfl) (by kernel_rfl) (by kernel_rfl) (by kernel_rfl) (fun _ _ _ h => h) (yG_pure (by kernel_rfl) (fun w => by kernel_rfl)) hS ?_
  refine takeD (i := 23) (v := .bool true) 4 rfl (by kernel_rfl) (by kernel_rfl) (by kernel_rfl) (by kernel_rfl) (fun _ _ _ h => h) (yG_pure (by kernel_rfl) (fun w => by kernel_rfl)) hS ?_
  refine wpAnyH_done (by kernel_rfl) ?_ _
  refine NoPanic.normal ?_
  simp only [Act.put, List.setIfInBounds_toArray, List.set_cons_succ, List.set_cons_zero]
  have MZ := Lib.hid M11.out.bel
  clear hS M7 M8 M9 M10 M11
  go_wp2
  go_ret
  exact ⟨by first | rfl | simp, by rw [HB.out]; exact MZ.out⟩
end Go.Proofs.Ytlkelfaokbdddaa
