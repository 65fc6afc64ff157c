/-
  TlsOwn: the walk.
  Conditions: none. (My own text.)
-/
import Derived.Test.YtpenejigebkkmaaTmt
import Derived.Test.YtpenejigebkkmaaTmv
namespace Go.Proofs.Ytpenejigebkkmaa
open Go.RowKit Spm
set_option linter.unusedVariables false
set_option linter.unusedSimpArgs false
attribute [local irreducible] wpList

set_option maxRecDepth 100000 in
set_option maxHeartbeats 4000000 in
theorem town_walk (v : Value) (l : List TActM) (a b n off by_ : Int) (a0 : 0 ≤ a) (a1 : a ≤ 255) (b0 : 0 ≤ b) (b1 : b ≤ 255) (y0 : 0 ≤ by_) (y1 : by_ ≤ 255) (w : World) (hv : TActsV w w.heap.size v l) :
    Calls Try.prog 3 #[v, .int .u8 a, .int .u8 b, .int .i64 n, .int .i64 off, .int .u8 by_] w fun e w' => e = .returned (.bool true) ∧ Below w.heap.size w w' := by
  have M0 := Lib.hid (Has.start (Below.refl w.heap.size w) (Nat.le_refl _))
  have HV := Lib.hid hv
  clear hv
  go_enter Try.func3, Try.ntmps3
  go_wp2_with fail
  refine (tawake_any M0.out).mono ?_
  rintro e w1 ⟨rfl, m⟩
  have C1 := Lib.hid (tplayed_any m v l HV.out)
  clear m M0
  go_wp2_with fail
  refine (C1.out).mono ?_
  rintro e w2 ⟨s, g, t, L, rfl, hp, m⟩
  have HS := Lib.hid hp.sinv
  have M2 := Lib.hid m
  clear hp m C1 HV
  obtain ⟨x, hx⟩ : ∃ x, x = a % 16 := ⟨_, rfl⟩
  obtain ⟨y, hy⟩ : ∃ y, y = b % 16 := ⟨_, rfl⟩
  have t1 : a.tmod 16 = x := by rw [Int.tmod_eq_emod_of_nonneg a0]; exact hx.symm
  have t2 : b.tmod 16 = y := by rw [Int.tmod_eq_emod_of_nonneg b0]; exact hy.symm
  have wx1 : IntKind.u8.wrap x = x := by rw [hx]; simp [IntKind.wrap, IntKind.signed, IntKind.bits]; omega
  have wy1 : IntKind.u8.wrap y = y := by rw [hy]; simp [IntKind.wrap, IntKind.signed, IntKind.bits]; omega
  have wx2 : IntKind.i64.wrap x = x := by rw [hx, IntKind.wrap_i64]; omega
  have wy2 : IntKind.i64.wrap y = y := by rw [hy, IntKind.wrap_i64]; omega
  clear hx hy
  have C3 := Lib.hid (taddr_any M2.out HS.out.inv.ok x n off)
  clear M2
  go_wp2_with fail
  refine (C3.out).mono ?_
  intro e w3 hE
  obtain ⟨p1, r1, t1, L1, hP1, rfl, m⟩ := AddrE.plain hE
  have HP1 := Lib.hid hP1
  have HS1 := Lib.hid (HS.out.addr hP1)
  have C4 := Lib.hid (taddr_any m HS1.out.inv.ok y n off)
  clear hE hP1 m C3
  go_wp2_with fail
  refine (C4.out).mono ?_
  intro e w4 hE
  obtain ⟨p2, r2, t2, L2, hP2, rfl, m⟩ := AddrE.plain hE
  have HP2 := Lib.hid hP2
  have HS2 := Lib.hid (HS1.out.addr hP2)
  have M4 := Lib.hid m
  clear hE hP2 m C4
  by_cases hxy : x = y
  · subst hxy
    obtain ⟨h1, h2⟩ := addr_twice HP1.out HP2.out
    subst h1 h2
    have HZ := Lib.hid M4.out.bel
    clear HP1 HP2 HS HS1 HS2 M4
    by_cases hr : r2 = 0
    · subst hr
      go_wp2
      go_ret
      exact ⟨rfl, HZ.out⟩
    · have hr2 : (r2 == 0) = false := beq_eq_false_iff_ne.2 hr
      go_wp2
      go_ret
      exact ⟨by simp, HZ.out⟩
  have exy : (x == y) = false := beq_eq_false_iff_ne.2 hxy
  by_cases hr1 : r1 = 0
  rotate_left
  · have hr2 : (r1 == 0) = false := beq_eq_false_iff_ne.2 hr1
    have HZ := Lib.hid M4.out.bel
    clear HP1 HP2 HS HS1 HS2 M4
    go_wp2
    go_ret
    exact ⟨by simp, HZ.out⟩
  subst hr1
  by_cases hr1 : r2 = 0
  rotate_left
  · have hr2 : (r2 == 0) = false := beq_eq_false_iff_ne.2 hr1
    have HZ := Lib.hid M4.out.bel
    clear HP1 HP2 HS HS1 HS2 M4
    go_wp2
    go_ret
    exact ⟨by simp, HZ.out⟩
  subst hr1
  have HX := Lib.hid (has_keep (addr_has HP1.out) hxy HP2.out)
  obtain ⟨bb, hbb⟩ : ∃ bb : UInt8, (bb.toNat : Int) = by_ := ⟨UInt8.ofNat by_.toNat, by rw [UInt8.toNat_ofNat']; omega⟩
  subst hbb
  have HO := Lib.hid (own_plain HS2.out HX.out (addr_has HP2.out) hxy bb)
  obtain ⟨ok, gr, gw, ne, same, mine, z0, z1, z2, z3⟩ := HO.out
  have C5 := Lib.hid (own_read (M4.out.pick (Sp g L2)) p2 (by omega) 1)
  clear HP1 HP2 HS HS1 M4 HO ok
  have HSAME : Hid (getS (setS L2 p1 [bb] 2).1 p2 1 1 = ((getS L2 p2 1 1).1, 0)) := Lib.hid (by rw [same, ← gr])
  have HMINE := Lib.hid mine
  have HW := Lib.hid gw
  rw [gr] at C5
  clear same mine gw gr
  go_wp2_with fail
  refine (C5.out).mono ?_
  rintro e w5 ⟨v5, rfl, m⟩
  have M5 := Lib.hid m
  clear m C5
  generalize (getS L2 p2 1 1).1 = lw at M5 HSAME
  have Na := Lib.hid (M5.out.newcel 5 #[.int .u8 bb.toNat])
  have HSC : Hid (SrcB (w5.alloc (.cells #[.int .u8 bb.toNat] 5)) (some ⟨w5.heap.size, 0, none⟩) [bb]) := Lib.hid (fun _ => ⟨w5.heap.size, 0, rfl, fun j x hj => by
    match j, hj with
    | 0, hj =>
      obtain rfl : bb = x := by simpa using hj
      exact Na.out.cellat w5.heap.size 0 rfl
    | j + 1, hj => simp at hj⟩)
  have C6 := Lib.hid (own_write (Na.out.pick (Sp g L2)) p1 (by omega) (some ⟨w5.heap.size, 0, none⟩) 1 [bb] (by show (1 : Nat) ≤ _; omega) HSC.out)
  rw [HW.out] at C6
  clear M5
  go_wp2_with fail
  refine (C6.out).mono ?_
  rintro e w6 ⟨rfl, m⟩
  have C7 := Lib.hid (own_read (m.pick (Sp g (setS L2 p1 [bb] 2).1)) p2 (by omega) 1)
  rw [HSAME.out] at C7
  clear m C6 HSC Na HW
  go_wp2_with fail
  refine (C7.out).mono ?_
  rintro e w7 ⟨v7, rfl, m⟩
  have C8 := Lib.hid (own_read (m.pick (Sp g (setS L2 p1 [bb] 2).1)) p1 (by omega) 1)
  rw [HMINE.out] at C8
  clear m C7 HSAME
  go_wp2_with fail
  refine (C8.out).mono ?_
  rintro e w8 ⟨v8, rfl, m⟩
  have C9 := Lib.hid (taddr_any (m.norm (Tl s t2 (Star (Sp g (setS L2 p1 [bb] 2).1) (Star (Bt v8 [bb]) (Star (Bt v7 lw) (Star (Bt v5 lw) Emp)))))) HS2.out.inv.ok x n off)
  clear m C8 HMINE
  go_wp2_with fail
  refine (C9.out).mono ?_
  intro e w9 hE
  obtain ⟨p3, r3, t3, L3, hP, rfl, m⟩ := AddrE.plain hE
  obtain ⟨rfl, rfl, -, -⟩ := has_addr HX.out hP
  have b8 := m.pick (Bt v8 [bb])
  have k7 := (m.pick (Bt v7 lw)).bt.conv
  have k5 := (m.pick (Bt v5 lw)).bt.conv
  obtain ⟨A8, c8, rfl, hc8, hs8⟩ := b8.bt.src
  obtain ⟨g8, o8, rfl, hcell⟩ := hs8 (by simp)
  have c0 : w9.cell? ⟨g8, o8, none⟩ = some (.int .u8 bb.toNat) := hcell 0 bb rfl
  have HZ := Lib.hid m.bel
  have en : (p3 == p2) = false := beq_eq_false_iff_ne.2 ne
  clear hE hP m C9 HX b8 hcell hs8 HS2
  go_wp2
  go_ret
  refine ⟨?_, HZ.out⟩
  simp [bne, en]
end Go.Proofs.Ytpenejigebkkmaa
