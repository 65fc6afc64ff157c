/-
  Layer 15: the walk of PlaceUnmaps.
  Conditions: none. (My own text.)
-/
import Derived.Test.YtlkelfaokbdddaaPlw
namespace Go.Proofs.Ytlkelfaokbdddaa
open Go.RowKit Spm
set_option linter.unusedVariables false
set_option linter.unusedSimpArgs false

attribute [local irreducible] wpList
set_option maxRecDepth 100000 in
set_option maxHeartbeats 4000000 in
theorem unmaps15_walk (v : Value) (l : List ActM) (d : ImgD) (w : World) (hv : ActsV w w.heap.size v l) (h : ImgOk w (fun k => k < w.heap.size) d) (base : Int) (hbase : I64 base) (put : Bool) : Calls Try.prog 7 #[v, .agg (imgD d), .int .i64 base, .bool put] w fun e w' => e = .returned (.bool true) ∧ Below w.heap.size w w' := by
  have HBS := Lib.hid hbase
  clear hbase
  have HSEG := Lib.hid h.segs
  have HV := Lib.hid hv
  clear hv
  have HOK := Lib.hid (fun (wr : World) (hb : Below w.heap.size w wr) => h.below hb)
  clear h
  rw [show imgD d = #[.string d.nm, .int .i64 d.fl, .slice d.sA d.sl.length d.sC, .slice d.nA d.nd.length d.nC, .slice d.rA d.rp.length d.rC, .slice d.yA d.sy.length d.yC, .slice d.bA d.bk.length d.bC, .slice d.wA d.wd.length d.wC, .int .i64 d.sh, .slice d.lA d.rl.length d.lC, .slice d.tA d.st.length d.tC, .slice d.iA d.ini.length d.iC, .slice d.fA d.fin.length d.fC, .slice d.xA d.xn d.xC, .int .i64 d.tz] from rfl]
  have M0 := Lib.hid ((Has.start (Below.refl w.heap.size w) (Nat.le_refl _)).newcel 39 #[.string d.nm, .int .i64 d.fl, .slice d.sA d.sl.length d.sC, .slice d.nA d.nd.length d.nC, .slice d.rA d.rp.length d.rC, .slice d.yA d.sy.length d.yC, .slice d.bA d.bk.length d.bC, .slice d.wA d.wd.length d.wC, .int .i64 d.sh, .slice d.lA d.rl.length d.lC, .slice d.tA d.st.length d.tC, .slice d.iA d.ini.length d.iC, .slice d.fA d.fin.length d.fC, .slice d.xA d.xn d.xC, .int .i64 d.tz])
  go_enter Try.func7, Try.ntmps7
  go_upto_region 1 with (fail)
  obtain ⟨W, hW⟩ : ∃ W, (w.alloc (.cells #[.string d.nm, .int .i64 d.fl, .slice d.sA d.sl.length d.sC, .slice d.nA d.nd.length d.nC, .slice d.rA d.rp.length d.rC, .slice d.yA d.sy.length d.yC, .slice d.bA d.bk.length d.bC, .slice d.wA d.wd.length d.wC, .int .i64 d.sh, .slice d.lA d.rl.length d.lC, .slice d.tA d.st.length d.tC, .slice d.iA d.ini.length d.iC, .slice d.fA d.fin.length d.fC, .slice d.xA d.xn d.xC, .int .i64 d.tz] 39)) = W := ⟨_, rfl⟩
  rw [hW] at M0 ⊢
  clear hW
  generalize hB : w.heap.size = b0 at M0 HOK HV HSEG ⊢
  have HB := Lib.hid hB
  clear hB
  have M1 : Hid (Has b0 w W (Star (Cel b0 39 (imgD d)) Emp)) := M0
  clear M0
  go_wp2_with fail
  refine (awake15 W).mono ?_
  rintro e w1 ⟨rfl, hb⟩
  have M2 := Lib.hid (M1.out.stay hb)
  clear hb M1
  go_wp2_with fail
  refine (both_beside M2.out v l HV.out).mono ?_
  rintro e w2 ⟨a, c, rfl, m⟩
  have M3 := Lib.hid m
  clear m M2 HV
  generalize playS [] (l.map (·.x)) = L at M3
  go_wp2_with (first | (refine wpList_rowW (by kernel_rfl) 39 _ rfl b0 rfl (imgD d) _ (M3.out.getc b0) Try.underlying39 rfl (by kernel_rfl) ?_))
  refine (may09_any d _ w2 (HOK.out _ M3.out.bel)).mono ?_
  rintro e w3 ⟨⟨n, rfl, hn⟩, hb⟩
  have M4 := Lib.hid (M3.out.stay hb)
  have MZ := Lib.hid M4.out.bel
  clear hb M3
  by_cases hn0 : n = 0
  case neg =>
    have hnb : (n != 0) = true := bne_iff_ne.2 hn0
    clear hn0 hn
    go_wp2
    go_ret
    exact ⟨by first | rfl | simp, by rw [HB.out]; exact MZ.out⟩
  have HSK := Lib.hid (hn hn0)
  subst hn0
  clear hn MZ
  cases put
  case false =>
    have C5 := Lib.hid (punmap_own M4.out base HBS.out d.img d.segs d.sl HSEG.out)
    go_wp2_with (first | (refine wpList_rowW (by kernel_rfl) 39 _ rfl b0 rfl (imgD d) _ (M4.out.getc b0) Try.underlying39 rfl (by kernel_rfl) ?_))
    refine (C5.out).mono ?_
    rintro e w7 ⟨rfl, m⟩
    have M8 := Lib.hid (m.pick (Rf c L))
    clear m C5 M4
    have C6 := Lib.hid (runmap15_own M8.out base d.img d.segs d.sl HSEG.out)
    go_wp2_with (first | (refine wpList_rowW (by kernel_rfl) 39 _ rfl b0 rfl (imgD d) _ (M8.out.getc b0) Try.underlying39 rfl (by kernel_rfl) ?_))
    refine (C6.out).mono ?_
    rintro e w8 ⟨rfl, m⟩
    have M9 := Lib.hid (m.pick (Sp a (unAllW L base d.sl)))
    clear m C6 M8
    generalize unErrW base L 0 d.sl = E at *
    generalize unAllW L base d.sl = L9 at *
    have hEE : (E == E) = true := beq_self_eq_true _
    go_wp2_with fail
    refine (alike15 M9.out).mono ?_
    rintro e w9 ⟨rfl, m⟩
    have MZ := Lib.hid m.bel
    clear m M9
    go_wp2
    go_ret
    exact ⟨by first | rfl | simp, by rw [HB.out]; exact MZ.out⟩
  have C1 := Lib.hid (pmap_own M4.out d.img d.segs d.sl HSEG.out (fun s hs => (HSK.out.each s hs).ok))
  have HI := Lib.hid (fun L4 at4 e4 hR => map_info M4.out.ok HSK.out (L4 := L4) (at4 := at4) (e4 := e4) hR)
  have HSM := Lib.hid (map_same M4.out.ok HSK.out)
  have hR0 : ∃ R, mapI L d.sl = R := ⟨_, rfl⟩
  obtain ⟨⟨L4, at4, e4⟩, hR⟩ := hR0
  have HI4 := Lib.hid (HI.out _ _ _ hR).2.2
  rw [hR] at C1 HSM
  clear hR HI
  go_wp2_with (first | (refine wpList_rowW (by kernel_rfl) 39 _ rfl b0 rfl (imgD d) _ (M4.out.getc b0) Try.underlying39 rfl (by kernel_rfl) ?_))
  refine (C1.out).mono ?_
  rintro e w4 ⟨rfl, m⟩
  have M5 := Lib.hid (m.pick (Rf c L))
  clear m C1 M4
  have C2 := Lib.hid (rmap15_own M5.out d.img d.segs d.sl HSEG.out HSK.out)
  rw [← HSM.out] at C2
  go_wp2_with (first | (refine wpList_rowW (by kernel_rfl) 39 _ rfl b0 rfl (imgD d) _ (M5.out.getc b0) Try.underlying39 rfl (by kernel_rfl) ?_))
  refine (C2.out).mono ?_
  rintro e w5 ⟨rfl, m⟩
  have M6 := Lib.hid (m.pick (Sp a L4))
  clear m C2 M5 HSM
  by_cases he : e4 = 0
  · have heb : (e4 == 0) = true := beq_iff_eq.2 he
    clear he
    have HBS := HI4
    clear HI4
    have C5 := Lib.hid (punmap_own M6.out at4 HBS.out d.img d.segs d.sl HSEG.out)
    go_wp2_with (first | (refine wpList_rowW (by kernel_rfl) 39 _ rfl b0 rfl (imgD d) _ (M6.out.getc b0) Try.underlying39 rfl (by kernel_rfl) ?_))
    refine (C5.out).mono ?_
    rintro e w7 ⟨rfl, m⟩
    have M8 := Lib.hid (m.pick (Rf c L4))
    clear m C5 M6
    have C6 := Lib.hid (runmap15_own M8.out at4 d.img d.segs d.sl HSEG.out)
    go_wp2_with (first | (refine wpList_rowW (by kernel_rfl) 39 _ rfl b0 rfl (imgD d) _ (M8.out.getc b0) Try.underlying39 rfl (by kernel_rfl) ?_))
    refine (C6.out).mono ?_
    rintro e w8 ⟨rfl, m⟩
    have M9 := Lib.hid (m.pick (Sp a (unAllW L4 at4 d.sl)))
    clear m C6 M8
    generalize unErrW at4 L4 0 d.sl = E at *
    generalize unAllW L4 at4 d.sl = L9 at *
    have hEE : (E == E) = true := beq_self_eq_true _
    go_wp2_with fail
    refine (alike15 M9.out).mono ?_
    rintro e w9 ⟨rfl, m⟩
    have MZ := Lib.hid m.bel
    clear m M9
    go_wp2
    go_ret
    exact ⟨by first | rfl | simp, by rw [HB.out]; exact MZ.out⟩
  · have heb : (e4 == 0) = false := beq_eq_false_iff_ne.2 he
    clear he
    have C5 := Lib.hid (punmap_own M6.out base HBS.out d.img d.segs d.sl HSEG.out)
    go_wp2_with (first | (refine wpList_rowW (by kernel_rfl) 39 _ rfl b0 rfl (imgD d) _ (M6.out.getc b0) Try.underlying39 rfl (by kernel_rfl) ?_))
    refine (C5.out).mono ?_
    rintro e w7 ⟨rfl, m⟩
    have M8 := Lib.hid (m.pick (Rf c L4))
    clear m C5 M6
    have C6 := Lib.hid (runmap15_own M8.out base d.img d.segs d.sl HSEG.out)
    go_wp2_with (first | (refine wpList_rowW (by kernel_rfl) 39 _ rfl b0 rfl (imgD d) _ (M8.out.getc b0) Try.underlying39 rfl (by kernel_rfl) ?_))
    refine (C6.out).mono ?_
    rintro e w8 ⟨rfl, m⟩
    have M9 := Lib.hid (m.pick (Sp a (unAllW L4 base d.sl)))
    clear m C6 M8
    generalize unErrW base L4 0 d.sl = E at *
    generalize unAllW L4 base d.sl = L9 at *
    have hEE : (E == E) = true := beq_self_eq_true _
    go_wp2_with fail
    refine (alike15 M9.out).mono ?_
    rintro e w9 ⟨rfl, m⟩
    have MZ := Lib.hid m.bel
    clear m M9
    go_wp2
    go_ret
    exact ⟨by first | rfl | simp, by rw [HB.out]; exact MZ.out⟩
end Go.Proofs.Ytlkelfaokbdddaa
