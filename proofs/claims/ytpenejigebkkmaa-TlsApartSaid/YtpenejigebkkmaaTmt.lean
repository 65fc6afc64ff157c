/-
  Layer 17: the document's examples (awake).
  Conditions: none. (My own text.)
-/
import Derived.Test.YtpenejigebkkmaaTms
namespace Go.Proofs.Ytpenejigebkkmaa
open Go.RowKit Spm
set_option linter.unusedVariables false
set_option linter.unusedSimpArgs false
attribute [local irreducible] wpList

theorem src_three {w : World} {g : Nat} (h : Blk w g 5 #[.int .u8 1, .int .u8 2, .int .u8 3]) : SrcB w (some ⟨g, 0, none⟩) [1, 2, 3] := fun _ => ⟨g, 0, rfl, fun j x hj => by
  rw [Nat.zero_add, h.cell]
  match j, hj with
  | 0, hj => cases hj; rfl
  | 1, hj => cases hj; rfl
  | 2, hj => cases hj; rfl
  | j + 3, hj => simp at hj⟩
set_option maxRecDepth 100000 in
set_option maxHeartbeats 4000000 in
theorem tawake_any {B : Nat} {w wr : World} {Y : Res} [hY : Fr Y] (h : Has B w wr Y) : Calls Try.prog 8 #[] wr fun e w' => e = .returned (.bool true) ∧ Has B w w' Y := by
  have C1 := Lib.hid (tnew_any h)
  clear h
  go_enter Try.func8, Try.ntmps8
  go_wp2_with fail
  refine (C1.out).mono ?_
  rintro e w2 ⟨s, gm, gg, gt, rfl, m⟩
  have C2 := Lib.hid (own_new m)
  clear m C1
  go_wp2_with fail
  refine (C2.out).mono ?_
  rintro e w3 ⟨a, rfl, m⟩
  have Na := Lib.hid (m.newcel 5 #[.int .u8 1, .int .u8 2, .int .u8 3])
  have hne : w3.heap.size ≠ gg := fun e => by
    have h1 : (w3.alloc (.cells #[.int .u8 1, .int .u8 2, .int .u8 3] 5)).heap[w3.heap.size]? = _ := Na.out.getc w3.heap.size
    have h2 : (w3.alloc (.cells #[.int .u8 1, .int .u8 2, .int .u8 3] 5)).heap[gg]? = _ := Na.out.getm (ts0 gm gg gt).gg
    rw [← e, h1] at h2
    cases h2
  have Nb := Lib.hid (Na.out.norm (Tl s (ts0 gm gg gt) (Star (Sp a []) (Star (Cel w3.heap.size 5 #[.int .u8 1, .int .u8 2, .int .u8 3]) Y))))
  have C3 := Lib.hid (treg_any Nb.out (TInv.new gm gg gt).key (c := 3) (src_three (Na.out.getc w3.heap.size)) (fun _ p hp e => by cases hp; exact hne e) 5 true)
  clear m C2 hne
  go_wp2_with fail
  refine (C3.out).mono ?_
  intro e w4 hE
  obtain ⟨n1, r1, t1, hP, rfl, m⟩ := RegE.plain hE
  have hI1 := (TInv.new gm gg gt).reg hP
  obtain ⟨rfl, rfl, v1, rfl⟩ := aw_reg1 hP
  have C4 := Lib.hid (treg_any m hI1.key (A := none) (c := 0) (tm := []) (fun hh => absurd rfl hh) (fun hh => absurd rfl hh) 8 false)
  clear hE hP C3 Na Nb
  have HI1 := Lib.hid hI1
  clear hI1
  go_wp2_with fail
  refine (C4.out).mono ?_
  intro e w5 hE
  obtain ⟨n1, r1, t1, hP, rfl, m⟩ := RegE.plain hE
  have hI2 := HI1.out.reg hP
  obtain ⟨rfl, rfl, v2, rfl⟩ := aw_reg2 hP
  have C5 := Lib.hid (tstart_any m hI2.good hI2.ok 0)
  have HI2 := Lib.hid hI2
  clear hE hP C4 HI1 hI2
  go_wp2_with fail
  refine (C5.out).mono ?_
  intro e w6 hE
  obtain ⟨n1, r1, t1, L1, hP, rfl, m⟩ := StartE.plain hE
  have hI3 := HI2.out.start hP
  obtain ⟨rfl, rfl, ⟨g, rfl⟩, rfl⟩ := aw_start hP
  have C6 := Lib.hid (taddr_any m hI3.ok 0 2 7)
  have HI3 := Lib.hid hI3
  clear hE hP C5 HI2 hI3
  go_wp2_with fail
  refine (C6.out).mono ?_
  intro e w7 hE
  obtain ⟨n1, r1, t1, L1, hP, rfl, m⟩ := AddrE.plain hE
  have hI4 := HI3.out.addr hP
  obtain ⟨rfl, rfl, tl, rfl⟩ := aw_addr hP
  have C7 := Lib.hid (treg_any m hI4.key (A := none) (c := 0) (tm := []) (fun hh => absurd rfl hh) (fun hh => absurd rfl hh) 1 true)
  have HI4 := Lib.hid hI4
  clear hE hP C6 HI3 hI4
  go_wp2_with fail
  refine (C7.out).mono ?_
  intro e w8 hE
  obtain ⟨n1, r1, t1, hP, rfl, m⟩ := RegE.plain hE
  obtain ⟨rfl, rfl, rfl⟩ := aw_reg3 hP
  have C8 := Lib.hid (trel_any m HI4.out.good 2)
  clear hE hP C7
  go_wp2_with fail
  refine (C8.out).mono ?_
  intro e w9 hE
  obtain ⟨r1, t1, L2, hP, rfl, m⟩ := RelE.plain hE
  obtain ⟨rfl, hgen⟩ := aw_rel hP
  have C9 := Lib.hid (tgen_any m 2)
  rw [hgen] at C9
  have MZ := Lib.hid (m.norm Y)
  clear hE hP C8 hgen
  go_wp2_with fail
  refine (C9.out).mono ?_
  rintro e w10 ⟨rfl, rfl⟩
  clear C9
  go_wp2_with fail
  go_ret
  exact ⟨rfl, MZ.out⟩
end Go.Proofs.Ytpenejigebkkmaa
