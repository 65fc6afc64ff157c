/-
  Layer 15: the walk of PlaceStands.
  Conditions: none. (My own text.)
-/
import Derived.Test.YtlkelfaokbdddaaPlw
namespace Go.Proofs.Ytlkelfaokbdddaa
open Go.RowKit Spm
set_option linter.unusedVariables false
set_option linter.unusedSimpArgs false

attribute [local irreducible] wpList
theorem hasP01 {p : Int} (h0 : 0 ≤ p) (h7 : p ≤ 7) : has p 1 = (p.tmod 2 == 1) ∧ has p 2 = ((p.tdiv 2).tmod 2 == 1) := by
  rcases (show p = 0 ∨ p = 1 ∨ p = 2 ∨ p = 3 ∨ p = 4 ∨ p = 5 ∨ p = 6 ∨ p = 7 by omega) with rfl | rfl | rfl | rfl | rfl | rfl | rfl | rfl <;> exact ⟨by decide, by decide⟩
theorem run_remZ {P : Program} {w : World} {o : Oper} {a : Go.Act} {x : Int} {n j : Nat} {t t' : TypeId} {p q : Operand} (ho : o.op = .binOp .rem t p q t') (hx : a.eval p = .int .i64 x) (hy : a.eval q = .int .i64 (n : Int)) (hn : 0 < n) (hj : x.tmod (n : Int) = (j : Int)) : (execOp a.eval o).run P w = .ok (.value (.int .i64 (j : Int))) w := by
  have h0 : ((n : Int) == 0) = false := beq_eq_false_iff_ne.2 (by omega)
  have h1 : ((n : Int) = 0) = False := eq_false (by omega)
  have h2 : (n = 0) = False := eq_false (by omega)
  unfold execOp
  rw [ho]
  simp only [hx, hy]
  rw [eqGuard_rem, binOp_rem]
  unfold Op.intDiv
  simp [Sem.run_bind, h0, h1, h2, hj]
set_option maxRecDepth 100000 in
set_option maxHeartbeats 4000000 in
theorem stands15_walk (v : Value) (l : List ActM) (d : ImgD) (w : World) (hv : ActsV w w.heap.size v l) (h : ImgOk w (fun k => k < w.heap.size) d) (x y : Int) (x0 : 0 ≤ x) (x1 : x ≤ 255) (y0 : 0 ≤ y) (y1 : y ≤ 65535) : Calls Try.prog 3 #[v, .agg (imgD d), .int .u8 x, .int .u16 y] w fun e w' => e = .returned (.bool true) ∧ Below w.heap.size w w' := by
  have HSEG := Lib.hid h.segs
  have HV := Lib.hid hv
  clear hv
  have HOK := Lib.hid (fun (wr : World) (hb : Below w.heap.size w wr) => h.below hb)
  clear h
  rw [show imgD d = #[.string d.nm, .int .i64 d.fl, .slice d.sA d.sl.length d.sC, .slice d.nA d.nd.length d.nC, .slice d.rA d.rp.length d.rC, .slice d.yA d.sy.length d.yC, .slice d.bA d.bk.length d.bC, .slice d.wA d.wd.length d.wC, .int .i64 d.sh, .slice d.lA d.rl.length d.lC, .slice d.tA d.st.length d.tC, .slice d.iA d.ini.length d.iC, .slice d.fA d.fin.length d.fC, .slice d.xA d.xn d.xC, .int .i64 d.tz] from rfl]
  have M0 := Lib.hid ((Has.start (Below.refl w.heap.size w) (Nat.le_refl _)).newcel 39 #[.string d.nm, .int .i64 d.fl, .slice d.sA d.sl.length d.sC, .slice d.nA d.nd.length d.nC, .slice d.rA d.rp.length d.rC, .slice d.yA d.sy.length d.yC, .slice d.bA d.bk.length d.bC, .slice d.wA d.wd.length d.wC, .int .i64 d.sh, .slice d.lA d.rl.length d.lC, .slice d.tA d.st.length d.tC, .slice d.iA d.ini.length d.iC, .slice d.fA d.fin.length d.fC, .slice d.xA d.xn d.xC, .int .i64 d.tz])
  go_enter Try.func3, Try.ntmps3
  go_upto_region 1 with (fail)
  obtain ⟨W, hW⟩ : ∃ W, (w.alloc (.cells #[.string d.nm, .int .i64 d.fl, .slice d.sA d.sl.length d.sC, .slice d.nA d.nd.length d.nC, .slice d.rA d.rp.length d.rC, .slice d.yA d.sy.length d.yC, .slice d.bA d.bk.length d.bC, .slice d.wA d.wd.length d.wC, .int .i64 d.sh, .slice d.lA d.rl.length d.lC, .slice d.tA d.st.length d.tC, .slice d.iA d.ini.length d.iC, .slice d.fA d.fin.length d.fC, .slice d.xA d.xn d.xC, .int .i64 d.tz] 39)) = W := ⟨_, rfl⟩
  rw [hW] at M0 ⊢
  clear hW
  generalize hB : w.heap.size = b0 at M0 HOK HV HSEG ⊢
  have HB := Lib.hid hB
  clear hB
  have M1 : Hid (Has b0 w W (Star (Cel b0 39 (imgD d)) Emp)) := M0
  clear M0
  go_wp2_with fail
  refine (awake15 W).mono ?_
  rintro e w1 ⟨rfl, hb⟩
  have M2 := Lib.hid (M1.out.stay hb)
  clear hb M1
  go_wp2_with fail
  refine (played_beside M2.out v l HV.out).mono ?_
  rintro e w2 ⟨a, rfl, m⟩
  have M3 := Lib.hid m
  clear m M2 HV
  generalize playS [] (l.map (·.x)) = L at M3
  go_wp2_with (first | (refine wpList_rowW (by kernel_rfl) 39 _ rfl b0 rfl (imgD d) _ (M3.out.getc b0) Try.underlying39 rfl (by kernel_rfl) ?_))
  refine (may09_any d _ w2 (HOK.out _ M3.out.bel)).mono ?_
  rintro e w3 ⟨⟨n, rfl, hn⟩, hb⟩
  have M4 := Lib.hid (M3.out.stay hb)
  have MZ := Lib.hid M4.out.bel
  clear hb M3
  by_cases hn0 : n = 0
  case neg =>
    have hnb : (n != 0) = true := bne_iff_ne.2 hn0
    clear hn0 hn
    go_wp2
    go_ret
    exact ⟨by first | rfl | simp, by rw [HB.out]; exact MZ.out⟩
  have HSK := Lib.hid (hn hn0)
  subst hn0
  clear hn MZ
  have HMI := Lib.hid (fun L4 at4 e4 hR => map_info M4.out.ok HSK.out (L4 := L4) (at4 := at4) (e4 := e4) hR)
  have C1 := Lib.hid (pmap_own M4.out d.img d.segs d.sl HSEG.out (fun s hs => (HSK.out.each s hs).ok))
  have hR0 : ∃ R, mapI L d.sl = R := ⟨_, rfl⟩
  obtain ⟨⟨L4, at4, e4⟩, hR⟩ := hR0
  have HI := Lib.hid (HMI.out _ _ _ hR)
  rw [hR] at C1
  clear hR HMI
  go_wp2_with (first | (refine wpList_rowW (by kernel_rfl) 39 _ rfl b0 rfl (imgD d) _ (M4.out.getc b0) Try.underlying39 rfl (by kernel_rfl) ?_))
  refine (C1.out).mono ?_
  rintro e w5 ⟨rfl, m⟩
  have M6 := Lib.hid m
  clear m C1 M4
  by_cases he : e4 = 0
  case neg =>
    have heb : (e4 != 0) = true := bne_iff_ne.2 he
    obtain ⟨h1, h2, h3⟩ := HI.out.1 he
    have MZ := Lib.hid M6.out.bel
    clear HI he h1 h2 M6
    rcases h3 with rfl | rfl
    all_goals
      go_wp2
      go_ret
      exact ⟨by first | rfl | simp, by rw [HB.out]; exact MZ.out⟩
  obtain ⟨ok4, b4, hst, _, _, _⟩ := HI.out.2.1 he
  have heb : (e4 != 0) = false := by simp [he]
  have OK4 := Lib.hid ok4
  have hn1 := List.length_pos_iff.2 HSK.out.n1
  have hn8 := HSK.out.n8
  obtain ⟨j, hj⟩ : ∃ j : Nat, x.tmod (d.sl.length : Int) = (j : Int) := ⟨(x.tmod (d.sl.length : Int)).toNat, by have e1 : x.tmod (d.sl.length : Int) = x % (d.sl.length : Int) := Int.tmod_eq_emod_of_nonneg x0; have e2 := Int.emod_nonneg x (show (d.sl.length : Int) ≠ 0 by omega); omega⟩
  have hjn : j < d.sl.length := by
    have e1 : x.tmod (d.sl.length : Int) = x % (d.sl.length : Int) := Int.tmod_eq_emod_of_nonneg x0
    have e2 := Int.emod_lt_of_pos x (show (0 : Int) < (d.sl.length : Int) by omega)
    omega
  obtain ⟨s, hs⟩ : ∃ s, d.sl[j]? = some s := ⟨_, List.getElem?_eq_getElem hjn⟩
  have hsm := List.mem_of_getElem? hs
  have hg := HSK.out.each s hsm
  obtain ⟨hsE, hsS⟩ := hst s hsm
  have HG := Lib.hid hg
  have HSS := Lib.hid hsS
  have hup := up_ge s.sz hg.s0
  have hp01 := hasP01 hg.p0 hg.p7
  have HP := Lib.hid hp01
  have g_a0 := hg.a0
  have g_s0 := hg.s0
  have g_e1 := hg.e1
  have hbel_ := hg.bl
  have HSB := Lib.hid (HSEG.out.bys s hsm)
  obtain ⟨b, off, hA, hcell0⟩ := HSEG.out.rows.elem j s hs
  have HA := Lib.hid hA
  obtain ⟨b', off', hA', hbB, hlt, _⟩ : ∃ b' off', d.sA = some ⟨b', off', none⟩ ∧ b' < b0 ∧ b' < w.heap.size ∧ True := by
    obtain ⟨A', c', e1, _, _, hr⟩ := HSEG.out.rows
    simp only [Value.slice.injEq, true_and] at e1
    obtain ⟨rfl, _⟩ := e1
    obtain ⟨b', off', k1, k2, k3, _⟩ := hr j s hs
    exact ⟨b', off', k1, k2, k3, trivial⟩
  rw [hA] at hA'
  simp only [Option.some.injEq, Addr.mk.injEq, and_true] at hA'
  obtain ⟨rfl, rfl⟩ := hA'
  have HCEL := Lib.hid (fun (X : World) (hX : Below b0 w X) => (show ∀ (i : Nat) (v : Value), (segA s).toList[i]? = some v → X.cell? ⟨b, off + j * 4 + i, none⟩ = some v from
      fun i v hv => (hX.cell (p := ⟨b, off + j * 4 + i, none⟩) hbB).trans (hcell0 i v hv)))
  have HJ := Lib.hid hj
  have HSL := Lib.hid (show (some (.slice d.sA d.sl.length d.sC) : Option Value) = some (.slice (some ⟨b, off, none⟩) d.sl.length d.sC) by rw [hA])
  have hxw : Hid (IntKind.i64.wrap x = x) := Lib.hid (by rw [IntKind.wrap_i64]; omega)
  clear hst HI he hsm hg hsS ok4 hcell0 hA hlt hs hp01 hj
  go_upto_region 8 with (fail)
  have M7 := Lib.hid (M6.out.stay (Below.refl _ _).drew)
  clear M6
  have hS0 : Below b0 w w5.drew ∧ w5.drew.cell? ⟨b0, 2, none⟩ = some (.slice (some ⟨b, off, none⟩) d.sl.length d.sC) := ⟨M7.out.bel, (M7.out.cellat b0 2 rfl).trans HSL.out⟩
  have Na := Lib.hid (M7.out.newcel 50 #[.int .i64 0, .int .i64 0, .slice none 0 0, .int .i64 0])
  have Nb := Lib.hid (Na.out.rowc w5.drew.heap.size (segA s))
  refine wp_region_noPanic ?_
  refine wp_region_held_drew (S := (fun X => Below b0 w X ∧ X.cell? ⟨b0, 2, none⟩ = some (.slice (some ⟨b, off, none⟩) d.sl.length d.sC))) (by kernel_rfl) hS0 ?_
  intro hS
  refine takeD (i := 0) (v := .pointer (some ⟨b0, 2, none⟩)) 51 rfl (by kernel_rfl) (by kernel_rfl) (by kernel_rfl) (by kernel_rfl) (fun _ _ _ h => h) (yG_pure (by kernel_rfl) (fun w => by kernel_rfl)) hS ?_
  refine takeD (i := 1) 52 rfl (by kernel_rfl) (by kernel_rfl) (by kernel_rfl) (by kernel_rfl) (fun _ _ _ h => h) (yG_cell (by kernel_rfl) 24 _ rfl b0 (2) (by kernel_rfl) (.slice (some ⟨b, off, none⟩) d.sl.length d.sC) (fun X h => h.2) _ Try.underlying24 rfl) hS ?_
  refine takeD (i := 2) (v := .int .u8 x) 53 rfl (by kernel_rfl) (by kernel_rfl) (by kernel_rfl) (by kernel_rfl) (fun _ _ _ h => h) (yG_pure (by kernel_rfl) (fun w => by kernel_rfl)) hS ?_
  refine takeD (i := 3) (v := .int .i64 x) 54 rfl (by kernel_rfl) (by kernel_rfl) (by kernel_rfl) (by kernel_rfl) (fun _ _ _ h => h) (yG_pure (by kernel_rfl) (fun w => run_val (show _ = Result.ok (Next.value (.int .i64 (IntKind.i64.wrap x))) w by kernel_rfl) (by rw [hxw.out]))) hS ?_
  refine takeD (i := 4) (v := .pointer (some ⟨b0, 2, none⟩)) 55 rfl (by kernel_rfl) (by kernel_rfl) (by kernel_rfl) (by kernel_rfl) (fun _ _ _ h => h) (yG_pure (by kernel_rfl) (fun w => by kernel_rfl)) hS ?_
  refine takeD (i := 5) 56 rfl (by kernel_rfl) (by kernel_rfl) (by kernel_rfl) (by kernel_rfl) (fun _ _ _ h => h) (yG_cell (by kernel_rfl) 24 _ rfl b0 (2) (by kernel_rfl) (.slice (some ⟨b, off, none⟩) d.sl.length d.sC) (fun X h => h.2) _ Try.underlying24 rfl) hS ?_
  refine takeD (i := 6) (v := .int .i64 (d.sl.length : Int)) 57 rfl (by kernel_rfl) (by kernel_rfl) (by kernel_rfl) (by kernel_rfl) (fun _ _ _ h => h) (yG_pure (by kernel_rfl) (fun w => by kernel_rfl)) hS ?_
  obtain ⟨i0_, hi0_⟩ : ∃ i0_, i0_ = (0 : Nat) := ⟨_, rfl⟩
  refine takeD (i := 7) (v := .int .i64 (j : Int)) 58 rfl (by kernel_rfl) (by kernel_rfl) (by kernel_rfl) (by kernel_rfl) (fun _ _ _ h => h) (yG_pure (by kernel_rfl) (fun w => run_remZ rfl (by kernel_rfl) (by kernel_rfl) hn1 HJ.out)) hS ?_
  refine takeD (i := 8) 59 rfl (by kernel_rfl) (by kernel_rfl) (by kernel_rfl) (by kernel_rfl) (fun _ _ _ h => h) (yG_sl (by kernel_rfl) _ _ rfl b (off) d.sl.length d.sC j 4 (by kernel_rfl) (by kernel_rfl) Try.underlying24 (by kernel_rfl) hjn) hS ?_
  refine takeD (i := 9) 60 rfl (by kernel_rfl) (by kernel_rfl) (by kernel_rfl) (by kernel_rfl) (fun _ _ _ h => h) (yG_part (by kernel_rfl) 50 _ rfl b (off + j * 4) (by kernel_rfl) (segA s) _ (fun X h => HCEL.out X h.1) Try.underlying50 rfl (by kernel_rfl)) hS ?_
  refine runD (i := 10) (v := .pointer (some ⟨w5.drew.heap.size, 0, none⟩)) (w' := w5.drew.alloc (.cells #[.int .i64 0, .int .i64 0, .slice none 0 0, .int .i64 0] 50)) 13 (by kernel_rfl) rfl (by kernel_rfl) (by kernel_rfl) (by kernel_rfl) ⟨Na.out.bel, (Na.out.cellat b0 2 rfl).trans HSL.out⟩ ?_
  refine storeD (i := 11) (by kernel_rfl) rfl (by kernel_rfl) (by kernel_rfl) 50 _ _ rfl w5.drew.heap.size (segA s) (by kernel_rfl) (by kernel_rfl) 50 #[.int .i64 0, .int .i64 0, .slice none 0 0, .int .i64 0] (Na.out.getc _) (by kernel_rfl) rfl (by kernel_rfl) ⟨Nb.out.bel, (Nb.out.cellat b0 2 rfl).trans HSL.out⟩ ?_
  refine wpAnyH_done (by kernel_rfl) ?_ _
  refine NoPanic.normal ?_
  simp only [Act.put, List.setIfInBounds_toArray, List.set_cons_succ, List.set_cons_zero]
  obtain ⟨W5, hW⟩ : ∃ W5, (w5.drew.alloc (.cells #[.int .i64 0, .int .i64 0, .slice none 0 0, .int .i64 0] 50)).setRow w5.drew.heap.size (segA s) = W5 := ⟨_, rfl⟩
  have N5 := Nb
  rw [hW] at N5 ⊢
  clear hW Na Nb hS0 M7 hS hxw
  generalize w5.drew.heap.size = q at N5 ⊢
  obtain ⟨k, hk⟩ : ∃ k : Nat, y.tmod s.sz = (k : Int) := ⟨(y.tmod s.sz).toNat, by have e1 : y.tmod s.sz = y % s.sz := Int.tmod_eq_emod_of_nonneg y0; have e2 := Int.emod_nonneg y (show s.sz ≠ 0 by omega); omega⟩
  have hks : (k : Int) < s.sz := by
    have e1 : y.tmod s.sz = y % s.sz := Int.tmod_eq_emod_of_nonneg y0
    have e2 := Int.emod_lt_of_pos y (show (0 : Int) < s.sz by omega)
    omega
  have q0 : W5.cell? ⟨q, 0, none⟩ = some (.int .i64 s.at_) := N5.out.cellat q 0 rfl
  have q1 : W5.cell? ⟨q, 1, none⟩ = some (.int .i64 s.sz) := N5.out.cellat q 1 rfl
  have hne : s.sz ≠ 0 := by omega
  have HGET := Lib.hid (fun p => stand_get OK4.out HSS.out HG.out hks p)
  have HSET := Lib.hid (fun p u => stand_set OK4.out HSS.out HG.out hks p u)
  have C2 := Lib.hid (own_peek (N5.out.pick (Sp a L4)) (at4 + s.at_ + k) (by omega) 1)
  rw [HGET.out 0, if_neg (by rw [has_zero]; decide)] at C2
  have hkw : IntKind.i64.wrap (k : Int) = (k : Int) := by rw [IntKind.wrap_i64]; omega
  have hyw : IntKind.i64.wrap y = y := by rw [IntKind.wrap_i64]; omega
  have P1 := Lib.hid HP.out.1
  have P2 := Lib.hid HP.out.2
  clear HP HJ HSL
  go_wp2_with fail
  refine (C2.out).mono ?_
  rintro e w6 ⟨v6, rfl, m⟩
  have M6 := Lib.hid m
  obtain ⟨A6, c6, rfl, hc6, hm6, hs6⟩ := m.bt.src'
  obtain ⟨bb, o6, rfl, hcell6⟩ := hs6 (by simp)
  have pw : w6.cell? ⟨bb, o6, none⟩ = some (byC (wantS s k)) := hcell6 0 _ rfl
  clear m C2 q0 q1 hcell6 hs6 hc6 hm6 N5 hk hkw hyw
  have q0 : w6.cell? ⟨q, 0, none⟩ = some (.int .i64 s.at_) := M6.out.cellat q 0 rfl
  have q2 : w6.cell? ⟨q, 2, none⟩ = some (.slice s.A s.b.length s.c) := M6.out.cellat q 2 rfl
  obtain ⟨h1, hh1⟩ : ∃ h1, has s.pm 1 = h1 := ⟨_, rfl⟩
  obtain ⟨h2, hh2⟩ : ∃ h2, has s.pm 2 = h2 := ⟨_, rfl⟩
  have hm1 : (s.pm.tmod 2 == 1) = h1 := by rw [← hh1, P1.out]
  have hm2 : ((s.pm.tdiv 2).tmod 2 == 1) = h2 := by rw [← hh2, P2.out]
  have HH1 := Lib.hid hh1
  have HH2 := Lib.hid hh2
  clear hh1 hh2 P1 P2
  by_cases hkl : k < s.b.length
  · obtain ⟨z, hz⟩ : ∃ z, s.b[k]? = some z := ⟨_, List.getElem?_eq_getElem hkl⟩
    have hwz : wantS s k = z := by unfold wantS; rw [List.getD_eq_getElem?_getD, hz]; rfl
    obtain ⟨b9, o9, hA9, hb9, _, hc9⟩ := HSB.out (by intro e; rw [e] at hkl; simp at hkl)
    have z0 : w6.cell? ⟨b9, o9 + k, none⟩ = some (.int .u8 z.toNat) := (M6.out.bel.cell (p := ⟨b9, o9 + k, none⟩) hb9).trans (hc9 k z hz)
    have p0 : w6.cell? ⟨bb, o6, none⟩ = some (.int .u8 z.toNat) := by rw [← hwz]; exact pw
    rw [hA9] at q2
    rw [hwz] at M6 HGET
    clear pw hwz hz hA9 hc9 hb9
    have hww : ((z.toNat : Int) != (z.toNat : Int)) = false := by simp
    go_upto_region 16 with (fail)
    have C3 := Lib.hid (own_read (M6.out.pick (Sp a L4)) (at4 + s.at_ + k) (by omega) 1)
    rw [HGET.out 1, HH1.out] at C3
    have C4 := Lib.hid (fun (X : World) (Y : Res) [Fr Y] (mX : Has b0 w X (Star (Sp a L4) Y)) (A : Option Addr) (c : Nat) (hs : SrcB X A [z]) => own_write mX (at4 + s.at_ + k) (by omega) A c [z] (by simp) hs)
    have HS2 := Lib.hid (HSET.out 2 z)
    rw [HH2.out] at HS2
    clear HGET HSET
    obtain ⟨R3, hR3⟩ : ∃ R3, (if h1 = false then (([] : List UInt8), (52 : Int)) else ([z], 0)) = R3 := ⟨_, rfl⟩
    have e3 : R3.2 = if h1 = false then 52 else 0 := by rw [← hR3]; cases h1 <;> rfl
    rw [hR3] at C3
    obtain ⟨R31, R32⟩ := R3
    simp only at e3 C3
    have E3 := Lib.hid e3
    clear hR3 e3
    go_wp2_with fail
    refine (C3.out).mono ?_
    rintro e w7 ⟨v7, rfl, m⟩
    have M7 := Lib.hid m
    clear m C3 M6 p0 q2
    have q0 : w7.cell? ⟨q, 0, none⟩ = some (.int .i64 s.at_) := M7.out.cellat q 0 rfl
    have M8 := Lib.hid ((M7.out.newcel 5 #[.int .u8 z.toNat]))
    have sb : SrcB (w7.alloc (.cells #[.int .u8 z.toNat] 5)) (some ⟨w7.heap.size, 0, none⟩) [z] := fun _ => ⟨_, _, rfl, fun j x hj => by
      match j, hj with
      | 0, hj =>
        obtain rfl : z = x := by simpa using hj
        exact M8.out.cellat _ 0 rfl
      | j + 1, hj => simp at hj⟩
    have C5 := Lib.hid (C4.out _ _ (M8.out.pick (Sp a L4)) _ 1 sb)
    rw [HS2.out] at C5
    clear C4 sb
    obtain ⟨E2, hE2⟩ : ∃ E2 : Int, (if h2 = false then (52 : Int) else 0) = E2 := ⟨_, rfl⟩
    rw [hE2] at C5
    have HE2 := Lib.hid hE2
    clear hE2 HS2
    go_wp2_with fail
    refine (C5.out).mono ?_
    rintro e w8 ⟨rfl, m⟩
    have M9 := Lib.hid m
    clear m C5 M8 M7 q0
    have q3 : w8.cell? ⟨q, 3, none⟩ = some (.int .i64 s.pm) := M9.out.cellat q 3 rfl
    have MZ := Lib.hid M9.out.bel
    clear M9
    have HW2 : Hid (wrap64 (s.pm.tdiv 2) = s.pm.tdiv 2) := Lib.hid (by have e1 := HG.out.p0; have e2 := HG.out.p7; rw [Int.tdiv_eq_ediv_of_nonneg e1]; unfold wrap64; omega)
    have hm3 : ((wrap64 (s.pm.tdiv 2)).tmod 2 == 1) = h2 := by rw [HW2.out]; exact hm2
    generalize s.pm = pm at hm1 hm2 hm3 q3
    cases h1 <;> cases h2
    all_goals
      obtain rfl : R32 = _ := E3.out
      obtain rfl := HE2.out
      go_wp2
      go_ret
      exact ⟨by first | rfl | (simp; done) | (simp; simpa using hm3) | (simp at hm3 ⊢; exact hm3), by rw [HB.out]; exact MZ.out⟩
  · have hwz : wantS s k = 0 := by unfold wantS; rw [List.getD_eq_getElem?_getD, List.getElem?_eq_none (by omega)]; rfl
    have p0 : w6.cell? ⟨bb, o6, none⟩ = some (.int .u8 0) := by rw [hwz] at pw; exact pw
    rw [hwz] at M6 HGET
    clear pw hwz
    have hge : ¬ ((k : Int) < (s.b.length : Int)) := by omega
    go_upto_region 16 with (fail)
    have C3 := Lib.hid (own_read (M6.out.pick (Sp a L4)) (at4 + s.at_ + k) (by omega) 1)
    rw [HGET.out 1, HH1.out] at C3
    have C4 := Lib.hid (fun (X : World) (Y : Res) [Fr Y] (mX : Has b0 w X (Star (Sp a L4) Y)) (A : Option Addr) (c : Nat) (hs : SrcB X A [0]) => own_write mX (at4 + s.at_ + k) (by omega) A c [0] (by simp) hs)
    have HS2 := Lib.hid (HSET.out 2 0)
    rw [HH2.out] at HS2
    clear HGET HSET
    obtain ⟨R3, hR3⟩ : ∃ R3, (if h1 = false then (([] : List UInt8), (52 : Int)) else ([0], 0)) = R3 := ⟨_, rfl⟩
    have e3 : R3.2 = if h1 = false then 52 else 0 := by rw [← hR3]; cases h1 <;> rfl
    rw [hR3] at C3
    obtain ⟨R31, R32⟩ := R3
    simp only at e3 C3
    have E3 := Lib.hid e3
    clear hR3 e3
    go_wp2_with fail
    refine (C3.out).mono ?_
    rintro e w7 ⟨v7, rfl, m⟩
    have M7 := Lib.hid m
    clear m C3 M6 p0 q2
    have q0 : w7.cell? ⟨q, 0, none⟩ = some (.int .i64 s.at_) := M7.out.cellat q 0 rfl
    have M8 := Lib.hid ((M7.out.newcel 5 #[.int .u8 0]))
    have sb : SrcB (w7.alloc (.cells #[.int .u8 0] 5)) (some ⟨w7.heap.size, 0, none⟩) [0] := fun _ => ⟨_, _, rfl, fun j x hj => by
      match j, hj with
      | 0, hj =>
        obtain rfl : 0 = x := by simpa using hj
        exact M8.out.cellat _ 0 rfl
      | j + 1, hj => simp at hj⟩
    have C5 := Lib.hid (C4.out _ _ (M8.out.pick (Sp a L4)) _ 1 sb)
    rw [HS2.out] at C5
    clear C4 sb
    obtain ⟨E2, hE2⟩ : ∃ E2 : Int, (if h2 = false then (52 : Int) else 0) = E2 := ⟨_, rfl⟩
    rw [hE2] at C5
    have HE2 := Lib.hid hE2
    clear hE2 HS2
    go_wp2_with fail
    refine (C5.out).mono ?_
    rintro e w8 ⟨rfl, m⟩
    have M9 := Lib.hid m
    clear m C5 M8 M7 q0
    have q3 : w8.cell? ⟨q, 3, none⟩ = some (.int .i64 s.pm) := M9.out.cellat q 3 rfl
    have MZ := Lib.hid M9.out.bel
    clear M9
    have HW2 : Hid (wrap64 (s.pm.tdiv 2) = s.pm.tdiv 2) := Lib.hid (by have e1 := HG.out.p0; have e2 := HG.out.p7; rw [Int.tdiv_eq_ediv_of_nonneg e1]; unfold wrap64; omega)
    have hm3 : ((wrap64 (s.pm.tdiv 2)).tmod 2 == 1) = h2 := by rw [HW2.out]; exact hm2
    generalize s.pm = pm at hm1 hm2 hm3 q3
    cases h1 <;> cases h2
    all_goals
      obtain rfl : R32 = _ := E3.out
      obtain rfl := HE2.out
      go_wp2
      go_ret
      exact ⟨by first | rfl | (simp; done) | (simp; simpa using hm3) | (simp at hm3 ⊢; exact hm3), by rw [HB.out]; exact MZ.out⟩
end Go.Proofs.Ytlkelfaokbdddaa
