/-
  TlsFresh: the walk.
  Conditions: none. (My own text.)
-/
import Derived.Test.YtpenejigebkkmaaTmt
import Derived.Test.YtpenejigebkkmaaTmv
namespace Go.Proofs.Ytpenejigebkkmaa
open Go.RowKit Spm
set_option linter.unusedVariables false
set_option linter.unusedSimpArgs false
attribute [local irreducible] wpList

theorem Has.gem {B : Nat} {w wr : World} {Y Y' : Res} {l : List Ent} {c : Nat} (h : Has B w wr Y) (g : Nat) [hp : UpdM g l c l c Y Y'] : B ≤ g := by
  obtain ⟨F, h1, h2⟩ := h.own
  exact h2 _ (hp.old h1).1
set_option maxRecDepth 100000 in
set_option maxHeartbeats 4000000 in
theorem tfresh_walk (v : Value) (l : List TActM) (A : Option Addr) (c : Nat) (tm : List UInt8) (htl : tm.length ≤ maxLen) (size id : Int) (i0 : 0 ≤ id) (i1 : id ≤ 255) (w : World) (hv : TActsV w w.heap.size v l) (hb : BytesAt w w.heap.size A tm) :
    Calls Try.prog 4 #[v, .slice A tm.length c, .int .i64 size, .int .u8 id] w fun e w' => e = .returned (.bool true) ∧ Below w.heap.size w w' := by
  have M0 := Lib.hid (Has.start (Below.refl w.heap.size w) (Nat.le_refl _))
  have HV := Lib.hid hv
  have HB := Lib.hid hb
  have HTL := Lib.hid htl
  clear hv hb htl
  go_enter Try.func4, Try.ntmps4
  go_wp2_with fail
  refine (tawake_any M0.out).mono ?_
  rintro e w1 ⟨rfl, m⟩
  have C1 := Lib.hid (tplayed_any m v l HV.out)
  clear m M0
  go_wp2_with fail
  refine (C1.out).mono ?_
  rintro e w2 ⟨s, g, t, L, rfl, hp, m⟩
  have HS := Lib.hid hp.sinv
  have hge := m.gem t.gg
  have C2 := Lib.hid (treg_any m hp.sinv.inv.key (A := A) (c := c) (tm := tm) (HB.out.src m.bel) (fun hne p hp e => by
        obtain ⟨bb, off2, h1, h2, -⟩ := HB.out hne
        rw [h1] at hp
        cases hp
        simp only at e
        omega) size false)
  clear hp m C1 HV hge
  go_wp2_with fail
  refine (C2.out).mono ?_
  intro e w3 hE
  obtain ⟨n1, r1, t1, hP, rfl, m⟩ := RegE.plain hE
  have HS1 := Lib.hid (HS.out.reg hP)
  by_cases hr : r1 = 0
  rotate_left
  · have hn := reg_err hP hr
    subst hn
    have hr2 : (r1 == 0) = false := beq_eq_false_iff_ne.2 hr
    have HZ := Lib.hid m.bel
    clear hE hP m C2
    go_wp2
    go_ret
    exact ⟨rfl, HZ.out⟩
  subst hr
  have HRG := Lib.hid (reg_ok HS.out hP)
  clear hE hP C2 HS
  obtain ⟨x, hx⟩ : ∃ x, x = id % 16 := ⟨_, rfl⟩
  have tx : id.tmod 16 = x := by rw [Int.tmod_eq_emod_of_nonneg i0]; exact hx.symm
  have wx1 : IntKind.u8.wrap x = x := by rw [hx]; simp [IntKind.wrap, IntKind.signed, IntKind.bits]; omega
  have wx2 : IntKind.i64.wrap x = x := by rw [hx, IntKind.wrap_i64]; omega
  have hx0 : 0 ≤ x := by omega
  have hx1 : x < 16 := by omega
  have HX := Lib.hid (show 0 ≤ x ∧ x < 16 from ⟨hx0, hx1⟩)
  clear hx hx0 hx1
  have C3 := Lib.hid (texit_any m HS1.out.inv.good x)
  clear m
  go_wp2_with fail
  refine (C3.out).mono ?_
  intro e w4 hE
  obtain ⟨r2, t2, L2, hP, rfl, m⟩ := ExitE.plain hE
  have HS2 := Lib.hid (HS1.out.exit hP)
  have HG := Lib.hid (exit_gone HS1.out hP)
  have C4 := Lib.hid (tstart_any m HS2.out.inv.good HS2.out.inv.ok x)
  clear hE hP m C3
  go_wp2_with fail
  refine (C4.out).mono ?_
  intro e w5 hE
  obtain ⟨n3, r3, t3, L3, hP, rfl, m⟩ := StartE.plain hE
  have HS3 := Lib.hid (HS2.out.start hP)
  have HST := Lib.hid (start_fresh HS2.out HG.out.1 HX.out.1 HX.out.2 hP)
  by_cases hr : r3 = 0
  rotate_left
  · have hn : r3 = 3 := by rcases HST.out.1 with h | h; exact absurd h hr; exact h
    subst hn
    have HZ := Lib.hid m.bel
    clear hE hP m C4 hr
    go_wp2
    go_ret
    exact ⟨rfl, HZ.out⟩
  subst hr
  have C5 := Lib.hid (taddr_any m HS3.out.inv.ok x n1 0)
  clear hE hP m C4
  go_wp2_with fail
  refine (C5.out).mono ?_
  intro e w6 hE
  obtain ⟨p4, r4, t4, L4, hP, rfl, m⟩ := AddrE.plain hE
  have HFR : Hid (∃ y : MdE, y.x.size = size ∧ y.x.tm = tm ∧ 1 ≤ size ∧ size ≤ 4096 ∧ (tm.length : Int) ≤ size ∧ (r4 = 0 ∨ r4 = 3) ∧ (r4 = 0 → getS L4 p4 size 1 = (fullB y.x, 0) ∧ p4 ≤ 4294967296)) := Lib.hid (by
    obtain ⟨y, h1, h2, h3, h4, h5, h6, h7, -⟩ := HRG.out
    obtain ⟨xx, hx1, hx2⟩ := HST.out.2.2 trivial
    have hml : t3.ml = t1.ml := HST.out.2.1.trans HG.out.2.1
    have := fresh_plain HS3.out hx1 hx2 (by rw [hml]; exact h1) h2 hP
    rw [h3] at this
    exact ⟨y, h3, h4, h5, h6, h7, this⟩)
  clear HRG HST HG HS1 HS2 hP hE C5
  obtain ⟨y, hy1, hy2, z1, z2, z3, hr4, hget⟩ := HFR.out
  by_cases hr : r4 = 0
  rotate_left
  · have hn : r4 = 3 := by rcases hr4 with h | h; exact absurd h hr; exact h
    subst hn
    have HZ := Lib.hid m.bel
    clear m hr hr4 hget hy1 hy2 HFR
    go_wp2
    go_ret
    exact ⟨rfl, HZ.out⟩
  subst hr
  obtain ⟨hg1, hg2⟩ := hget rfl
  have C6 := Lib.hid (own_read (m.pick (Sp g L4)) p4 (by omega) size)
  rw [hg1] at C6
  have hlen : ((fullB y.x).length : Int) = size := by rw [fullB_len (by rw [hy1, hy2]; exact z3)]; exact hy1
  have hfull : fullB y.x = tm ++ List.replicate (size.toNat - tm.length) 0 := by unfold fullB; rw [hy1, hy2]
  generalize fullB y.x = fb at C6 hlen hfull
  obtain ⟨N, rfl⟩ : ∃ N : Nat, size = N := ⟨size.toNat, by omega⟩
  have hN : fb.length = N := by omega
  have HFB := Lib.hid hfull
  have HN := Lib.hid hN
  clear m hr4 hg1 hg2 hget hy1 hy2 hlen hfull hN HFR HS3
  go_wp2_with fail
  refine (C6.out).mono ?_
  rintro e w7 ⟨v7, rfl, m⟩
  obtain ⟨A7, c7, rfl, hc7, hs7⟩ := m.bt.src
  have HS7 := Lib.hid hs7
  have M7 := Lib.hid m
  rw [HN.out]
  rw [HN.out] at M7
  clear m C6 hs7
  go_wp2_with fail
  go_loopw [17] (fun i wr => ∃ k : Nat, k ≤ N ∧ i = .int .i64 k ∧ Hid (Has w.heap.size w wr (Bt (.slice A7 N c7) fb))) (fun i _ => N - (intOf i).toNat)
  case atStart => exact ⟨0, Nat.zero_le _, rfl, Lib.hid M7.out.left⟩
  case round =>
    obtain ⟨k, hk, rfl, hM⟩ := hrel
    by_cases hlt : k < N
    · obtain ⟨z, hz⟩ : ∃ z, fb[k]? = some z := ⟨fb[k]'(by rw [HN.out]; exact hlt), List.getElem?_eq_getElem _⟩
      obtain ⟨F, hF, -⟩ := hM.out.own
      obtain ⟨A9, c9, h9, hc9, hs9⟩ := hF.1.src
      rw [HN.out] at h9
      cases h9
      obtain ⟨g7, o7, rfl, hcell⟩ := hs9 (by intro h; rw [h] at hz; simp at hz)
      have c0 : wr.cell? ⟨g7, o7 + k, none⟩ = some (.int .u8 z.toNat) := hcell k z hz
      have HZ := Lib.hid hz
      clear hcell hF hz hs9
      by_cases hkt : k < tm.length
      · obtain ⟨y, hy⟩ : ∃ y, tm[k]? = some y := ⟨tm[k], List.getElem?_eq_getElem hkt⟩
        obtain ⟨g5, o5, rfl, hcell⟩ := HB.out.src hM.out.bel (by intro h; rw [h] at hy; simp at hy)
        have c1 : wr.cell? ⟨g5, o5 + k, none⟩ = some (.int .u8 y.toNat) := hcell k y hy
        obtain rfl : z = y := by
          have h := HZ.out
          rw [HFB.out, List.getElem?_append_left hkt, hy] at h
          exact (Option.some.inj h).symm
        clear hcell hy
        go_wp2
        go_roundw
        case rel => exact ⟨k + 1, by omega, by go_num, hM⟩
        case measure => simp [intOf]; omega
      · obtain rfl : z = 0 := by
          have h := HZ.out
          rw [HFB.out, List.getElem?_append_right (by omega), List.getElem?_replicate, if_pos (by omega)] at h
          exact (Option.some.inj h).symm
        go_wp2
        go_roundw
        case rel => exact ⟨k + 1, by omega, by go_num, hM⟩
        case measure => simp [intOf]; omega
    · go_wp2
      go_ret
      exact ⟨rfl, hM.out.bel⟩
end Go.Proofs.Ytpenejigebkkmaa
