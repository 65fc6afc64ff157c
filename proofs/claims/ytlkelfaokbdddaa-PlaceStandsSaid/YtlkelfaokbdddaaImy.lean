/-
  Layer 9: the document's test of symbols: it answers something.
  Conditions: none. (My own text.)
-/
import Derived.Test.YtlkelfaokbdddaaImr
import Derived.Test.YtlkelfaokbdddaaImi
import Derived.Test.YtlkelfaokbdddaaImv
namespace Go.Proofs.Ytlkelfaokbdddaa
open Go.RowKit Spm
set_option linter.unusedVariables false
set_option linter.unusedSimpArgs false

attribute [local irreducible] wpList
set_option maxRecDepth 100000 in
set_option maxHeartbeats 4000000 in
theorem symbols09_any (d : ImgD) (P : Nat → Prop) (w : World) (h : ImgOk w P d) : Calls Try.prog 29 #[.agg (imgD d)] w (BoolE w) := by
  have HOK := Lib.hid (fun (wr : World) (hb : Below w.heap.size w wr) => h.stay hb)
  clear h
  rw [show imgD d = #[.string d.nm, .int .i64 d.fl, .slice d.sA d.sl.length d.sC, .slice d.nA d.nd.length d.nC, .slice d.rA d.rp.length d.rC, .slice d.yA d.sy.length d.yC, .slice d.bA d.bk.length d.bC, .slice d.wA d.wd.length d.wC, .int .i64 d.sh, .slice d.lA d.rl.length d.lC, .slice d.tA d.st.length d.tC, .slice d.iA d.ini.length d.iC, .slice d.fA d.fin.length d.fC, .slice d.xA d.xn d.xC, .int .i64 d.tz] from rfl]
  have M0 := Lib.hid ((Has.start (Below.refl w.heap.size w) (Nat.le_refl _)).newcel 39 #[.string d.nm, .int .i64 d.fl, .slice d.sA d.sl.length d.sC, .slice d.nA d.nd.length d.nC, .slice d.rA d.rp.length d.rC, .slice d.yA d.sy.length d.yC, .slice d.bA d.bk.length d.bC, .slice d.wA d.wd.length d.wC, .int .i64 d.sh, .slice d.lA d.rl.length d.lC, .slice d.tA d.st.length d.tC, .slice d.iA d.ini.length d.iC, .slice d.fA d.fin.length d.fC, .slice d.xA d.xn d.xC, .int .i64 d.tz])
  go_enter Try.func29, Try.ntmps29
  go_upto_region 1 with (fail)
  obtain ⟨W, hW⟩ : ∃ W, (w.alloc (.cells #[.string d.nm, .int .i64 d.fl, .slice d.sA d.sl.length d.sC, .slice d.nA d.nd.length d.nC, .slice d.rA d.rp.length d.rC, .slice d.yA d.sy.length d.yC, .slice d.bA d.bk.length d.bC, .slice d.wA d.wd.length d.wC, .int .i64 d.sh, .slice d.lA d.rl.length d.lC, .slice d.tA d.st.length d.tC, .slice d.iA d.ini.length d.iC, .slice d.fA d.fin.length d.fC, .slice d.xA d.xn d.xC, .int .i64 d.tz] 39)) = W := ⟨_, rfl⟩
  rw [hW] at M0 ⊢
  clear hW
  generalize hB : w.heap.size = b0 at M0 HOK ⊢
  have HB := Lib.hid hB
  clear hB
  have M1 : Hid (Has b0 w W (Star (Cel b0 39 (imgD d)) Emp)) := M0
  clear M0
  have i5 : W.cell? ⟨b0, 5, none⟩ = some (.slice d.yA d.sy.length d.yC) := M1.out.cellat b0 5 rfl
  have hyl := (HOK.out W M1.out.bel).sys.rows.len
  unfold maxLen at hyl
  have MZ := Lib.hid M1.out.bel
  by_cases hv : (512 : Int) < (d.sy.length : Int)
  · go_wp2
    (go_ret; exact ⟨⟨_, rfl⟩, by rw [HB.out]; exact MZ.out⟩)
  clear MZ
  go_wp2_with fail
  go_loopw [3] (fun i wr => ∃ k : Nat, k ≤ d.sy.length ∧ i = .int .i64 k ∧ Hid (Has b0 w wr (Star (Cel b0 39 (imgD d)) Emp))) (fun i _ => d.sy.length - (intOf i).toNat)
  case atStart => exact ⟨0, Nat.zero_le _, rfl, M1⟩
  case round =>
    clear i5 M1
    obtain ⟨k, hk, rfl, M3⟩ := hrel
    obtain ⟨w3, hw3⟩ : ∃ w3, w3 = wr := ⟨_, rfl⟩
    rw [← hw3] at M3 ⊢
    clear hw3
    by_cases hkn : k < d.sy.length
    · obtain ⟨s, hs⟩ : ∃ s, d.sy[k]? = some s := ⟨_, List.getElem?_eq_getElem hkn⟩
      have HSZ := Lib.hid ((HOK.out w3 M3.out.bel).sys.sz s (List.mem_of_getElem? hs))
      obtain ⟨b, off, hA, hcell⟩ := (HOK.out _ M3.out.bel).sys.rows.elem k s hs
      have i5 : w3.cell? ⟨b0, 5, none⟩ = some (.slice (some ⟨b, off, none⟩) d.sy.length d.yC) := M3.out.cellat b0 5 (by rw [← hA]; rfl)
      have cel : ∀ j v, (symA s).toList[j]? = some v → w3.cell? ⟨b, off + k * 9 + j, none⟩ = some v := fun j v hv => hcell j v hv
      clear hcell hs hA
      have Na := Lib.hid (M3.out.newcel 103 #[.string ⟨#[]⟩, .string ⟨#[]⟩, .bool false, .int .i64 0, .bool false, .int .i64 0, .bool false, .int .i64 0, .int .i64 0])
      have Nb := Lib.hid (Na.out.rowc w3.heap.size (symA s))
      go_upto_region 7 with (first | (refine wpList_partW (by kernel_rfl) 103 _ rfl b (off + k * 9) rfl (symA s) _ cel Try.underlying103 rfl (by kernel_rfl) ?_) | (refine wpList_store_row rfl 103 _ _ rfl w3.heap.size (symA s) rfl rfl 103 #[.string ⟨#[]⟩, .string ⟨#[]⟩, .bool false, .int .i64 0, .bool false, .int .i64 0, .bool false, .int .i64 0, .int .i64 0] (Na.out.getc w3.heap.size) (by kernel_rfl) rfl (by kernel_rfl) ?_))
      obtain ⟨W5, hW⟩ : ∃ W5, (w3.alloc (.cells #[.string ⟨#[]⟩, .string ⟨#[]⟩, .bool false, .int .i64 0, .bool false, .int .i64 0, .bool false, .int .i64 0, .int .i64 0] 103)).setRow w3.heap.size (symA s) = W5 := ⟨_, rfl⟩
      have N5 := Nb
      rw [hW] at N5 ⊢
      clear hW Na Nb
      generalize w3.heap.size = q at N5 ⊢
      clear i5 cel M3
      go_wp2_with (first | (refine wpList_rowW (by kernel_rfl) 103 _ rfl q rfl (symA s) _ (N5.out.getc q) Try.underlying103 rfl (by kernel_rfl) ?_))
      refine (right07_some s HSZ.out.1 HSZ.out.2 W5).mono ?_
      rintro e w6 ⟨⟨b1, rfl⟩, hb1⟩
      have N6 := Lib.hid (N5.out.stay hb1)
      have MZ := Lib.hid N6.out.bel
      clear hb1 N5
      cases b1
      · go_wp2
        (go_ret; exact ⟨⟨_, rfl⟩, by rw [HB.out]; exact MZ.out⟩)
      have i14 : w6.cell? ⟨b0, 14, none⟩ = some (.int .i64 d.tz) := N6.out.cellat b0 14 rfl
      have s3 : w6.cell? ⟨q, 3, none⟩ = some (.int .i64 s.kind) := N6.out.cellat q 3 rfl
      have s6 : w6.cell? ⟨q, 6, none⟩ = some (.bool s.dfd) := N6.out.cellat q 6 rfl
      have s7 : w6.cell? ⟨q, 7, none⟩ = some (.int .i64 s.val) := N6.out.cellat q 7 rfl
      have s8 : w6.cell? ⟨q, 8, none⟩ = some (.int .i64 s.sz) := N6.out.cellat q 8 rfl
      have C1 := Lib.hid (stands_any d.img d.segs d.sl P s.val s.sz 0 _ (HOK.out _ N6.out.bel).segs)
      obtain ⟨dfd, hdf⟩ : ∃ dfd, s.dfd = dfd := ⟨_, rfl⟩
      rw [hdf] at s6
      have HDF := Lib.hid hdf
      clear hdf
      obtain ⟨sk, hsk⟩ : ∃ sk, s.kind = sk := ⟨_, rfl⟩
      rw [hsk] at s3
      clear hsk
      obtain ⟨sv, hsv⟩ : ∃ sv, s.val = sv := ⟨_, rfl⟩
      rw [hsv] at s7 C1
      clear hsv
      obtain ⟨sz, hsz⟩ : ∃ sz, s.sz = sz := ⟨_, rfl⟩
      rw [hsz] at s8 C1
      clear hsz
      go_upto_region 9 with (fail)
      cases dfd
      case' false => go_wp2_with fail
      case' true =>
        by_cases hk3 : sk = 3
        case' pos =>
          subst hk3
          go_wp2_with fail
        case' neg =>
          have hk3b : (sk == 3) = false := beq_eq_false_iff_ne.2 hk3
          have hk3c : (sk != 3) = true := bne_iff_ne.2 hk3
          clear hk3
          clear MZ
          go_wp2_with (first | (refine wpList_rowW (by kernel_rfl) 39 _ rfl b0 rfl (imgD d) _ (N6.out.getc b0) Try.underlying39 rfl (by kernel_rfl) ?_))
          refine (C1.out).mono ?_
          rintro e w7 ⟨⟨b2, rfl⟩, hb2⟩
          have N7 := Lib.hid (N6.out.stay hb2)
          have MZ := Lib.hid N7.out.bel
          clear hb2 N6
          have N6 := N7
          clear N7
          cases b2 <;> go_wp2_with fail
      all_goals first
      | (go_ret; exact ⟨⟨_, rfl⟩, by rw [HB.out]; exact MZ.out⟩)
      | skip
      all_goals
        clear MZ
        go_loopw [5] (fun j wr => ∃ k2 : Nat, k2 ≤ k ∧ j = .int .i64 k2 ∧ Hid (Has b0 w wr (Star (Cel q 103 (symA s)) (Star (Cel b0 39 (imgD d)) Emp)))) (fun j _ => k - (intOf j).toNat)
        case atStart => exact ⟨0, Nat.zero_le _, rfl, N6⟩
        case round =>
          clear N6 s3 s6 s7 s8 i14
          obtain ⟨k2, hk2, rfl, N9⟩ := hrel
          obtain ⟨w9, hw9⟩ : ∃ w9, w9 = wr := ⟨_, rfl⟩
          rw [← hw9] at N9 ⊢
          clear hw9
          by_cases hk2n : k2 < k
          · have hk2l : k2 < d.sy.length := by omega
            obtain ⟨t, ht⟩ : ∃ t, d.sy[k2]? = some t := ⟨_, List.getElem?_eq_getElem hk2l⟩
            obtain ⟨b8, off8, hA8, hcell8⟩ := (HOK.out _ N9.out.bel).sys.rows.elem k2 t ht
            have i5 : w9.cell? ⟨b0, 5, none⟩ = some (.slice (some ⟨b8, off8, none⟩) d.sy.length d.yC) := N9.out.cellat b0 5 (by rw [← hA8]; rfl)
            have cel : ∀ j v, (symA t).toList[j]? = some v → w9.cell? ⟨b8, off8 + k2 * 9 + j, none⟩ = some v := fun j v hv => hcell8 j v hv
            clear hcell8 ht hA8
            have Na := Lib.hid (N9.out.newcel 103 #[.string ⟨#[]⟩, .string ⟨#[]⟩, .bool false, .int .i64 0, .bool false, .int .i64 0, .bool false, .int .i64 0, .int .i64 0])
            have Nb := Lib.hid (Na.out.rowc w9.heap.size (symA t))
            go_upto_region 15 with (first | (refine wpList_partW (by kernel_rfl) 103 _ rfl b8 (off8 + k2 * 9) rfl (symA t) _ cel Try.underlying103 rfl (by kernel_rfl) ?_) | (refine wpList_store_row rfl 103 _ _ rfl w9.heap.size (symA t) rfl rfl 103 #[.string ⟨#[]⟩, .string ⟨#[]⟩, .bool false, .int .i64 0, .bool false, .int .i64 0, .bool false, .int .i64 0, .int .i64 0] (Na.out.getc w9.heap.size) (by kernel_rfl) rfl (by kernel_rfl) ?_))
            obtain ⟨w10, hW⟩ : ∃ w10, (w9.alloc (.cells #[.string ⟨#[]⟩, .string ⟨#[]⟩, .bool false, .int .i64 0, .bool false, .int .i64 0, .bool false, .int .i64 0, .int .i64 0] 103)).setRow w9.heap.size (symA t) = w10 := ⟨_, rfl⟩
            have N10 := Nb
            rw [hW] at N10 ⊢
            clear hW Na Nb
            generalize w9.heap.size = q2 at N10 ⊢
            clear i5 cel N9
            have s0 : w10.cell? ⟨q, 0, none⟩ = some (.string s.nm) := N10.out.cellat q 0 rfl
            have s1 : w10.cell? ⟨q, 1, none⟩ = some (.string s.ver) := N10.out.cellat q 1 rfl
            have s2 : w10.cell? ⟨q, 2, none⟩ = some (.bool s.old) := N10.out.cellat q 2 rfl
            have s6 : w10.cell? ⟨q, 6, none⟩ = some (.bool s.dfd) := N10.out.cellat q 6 rfl
            have t0 : w10.cell? ⟨q2, 0, none⟩ = some (.string t.nm) := N10.out.cellat q2 0 rfl
            have t1 : w10.cell? ⟨q2, 1, none⟩ = some (.string t.ver) := N10.out.cellat q2 1 rfl
            have t2 : w10.cell? ⟨q2, 2, none⟩ = some (.bool t.old) := N10.out.cellat q2 2 rfl
            have t6 : w10.cell? ⟨q2, 6, none⟩ = some (.bool t.dfd) := N10.out.cellat q2 6 rfl
            have M8 := Lib.hid (N10.out.norm (Star (Cel q 103 (symA s)) (Star (Cel b0 39 (imgD d)) Emp)))
            have MZ := Lib.hid M8.out.bel
            clear N10
            obtain ⟨d1, hd1⟩ : ∃ d1, s.dfd = d1 := ⟨_, rfl⟩
            obtain ⟨d2, hd2⟩ : ∃ d2, t.dfd = d2 := ⟨_, rfl⟩
            obtain ⟨o1, ho1⟩ : ∃ o1, s.old = o1 := ⟨_, rfl⟩
            obtain ⟨o2, ho2⟩ : ∃ o2, t.old = o2 := ⟨_, rfl⟩
            rw [hd1] at s6
            rw [hd2] at t6
            rw [ho1] at s2
            rw [ho2] at t2
            clear hd1 hd2 ho1 ho2 HDF
            go_wp2_with fail
            all_goals first
            | (go_ret; exact ⟨⟨_, rfl⟩, by rw [HB.out]; exact MZ.out⟩)
            | (go_roundw
               case rel => exact ⟨k2 + 1, by omega, by go_num, M8⟩
               case measure => simp [intOf]; omega)
            | (refine ⟨?_, ?_⟩
               · (repeat apply Exists.intro)
                 refine ⟨?_, rfl⟩
                 exact ⟨k2 + 1, by omega, by go_num, M8⟩
               · simp [intOf]; omega)
          · have MZ := Lib.hid (N9.out.norm (Star (Cel b0 39 (imgD d)) Emp))
            have hge : ¬ ((k2 : Int) < (k : Int)) := by omega
            go_wp2_with fail
            first
              | (go_roundw
                 case rel => exact ⟨k + 1, by omega, by go_num, MZ⟩
                 case measure => simp [intOf]; omega)
              | (refine ⟨?_, ?_⟩
                 · (repeat apply Exists.intro)
                   refine ⟨?_, rfl⟩
                   exact ⟨k + 1, by omega, by go_num, MZ⟩
                 · simp [intOf]; omega)
    · have MZ := Lib.hid M3.out.bel
      have i5 : w3.cell? ⟨b0, 5, none⟩ = some (.slice d.yA d.sy.length d.yC) := M3.out.cellat b0 5 rfl
      go_wp2
      (go_ret; exact ⟨⟨_, rfl⟩, by rw [HB.out]; exact MZ.out⟩)
end Go.Proofs.Ytlkelfaokbdddaa
