/-
  Layer 17: the document's examples (awake), plain: what the two Registers answer.
  Layer 17: the document's examples (awake).
  Conditions: none. (My own text.)
-/
import Derived.Test.YtpenejigebkkmaaGreatTgb
namespace Go.Proofs.YtpenejigebkkmaaGreat
open Go.RowKit Spm
set_option linter.unusedVariables false
set_option linter.unusedSimpArgs false

theorem freeN_one {l : List MdE} {n : Int} (h : FreeN l n) (h1 : ¬ 0 < mszS l 1) : n = 1 := by
  obtain ⟨a, -, b, -⟩ := h
  by_cases hn : n = 1
  · exact hn
  · exact absurd (b 1 (by omega) (by omega)) h1
theorem freeN_two {l : List MdE} {n : Int} (h : FreeN l n) (h1 : 0 < mszS l 1) (h2 : ¬ 0 < mszS l 2) : n = 2 := by
  obtain ⟨a, -, b, c⟩ := h
  by_cases hn : n = 2
  · exact hn
  · by_cases h3 : n = 1
    · subst h3; exact absurd h1 c
    · exact absurd (b 2 (by omega) (by omega)) h2
theorem aw_reg1 {gm gg gt : Nat} {n r : Int} {t' : Ts} (h : RegP (ts0 gm gg gt) [1, 2, 3] 5 true n r t') : n = 1 ∧ r = 0 ∧ ∃ v, t' = regT (ts0 gm gg gt) 1 [1, 2, 3] 5 true v := by
  unfold RegP at h
  rw [if_neg (by decide), if_neg (by rintro ⟨-, hh⟩; cases hh)] at h
  obtain ⟨m, hm, h⟩ := h
  obtain rfl := freeN_one hm (by show ¬ (0 : Int) < 0; decide)
  rw [if_neg (by decide), if_neg (by rintro ⟨-, hh⟩; exact absurd hh (by show ¬ wrap64 (4096 - 0) < upT 5; decide +kernel))] at h
  exact h
theorem aw_reg2 {gm gg gt : Nat} {v1 : Value} {n r : Int} {t' : Ts} (h : RegP (regT (ts0 gm gg gt) 1 [1, 2, 3] 5 true v1) [] 8 false n r t') : n = 2 ∧ r = 0 ∧ ∃ v, t' = regT (regT (ts0 gm gg gt) 1 [1, 2, 3] 5 true v1) 2 [] 8 false v := by
  unfold RegP at h
  rw [if_neg (by decide), if_neg (by rintro ⟨hh, -⟩; cases hh)] at h
  obtain ⟨m, hm, h⟩ := h
  obtain rfl := freeN_two hm (by show (0 : Int) < 5; decide) (by show ¬ (0 : Int) < 0; decide)
  rw [if_neg (by decide), if_neg (by rintro ⟨hh, -⟩; cases hh)] at h
  exact h
def awL0 : List Rg := (mapS [] 8 3).1
theorem awL0_at : mapS [] 8 3 = (awL0, 4096, 0) := by decide +kernel
def awL1 : List Rg := (setS awL0 4096 [1, 2, 3, 0, 0] 0).1
theorem aw_start {gm gg gt : Nat} {v1 v2 : Value} {n r : Int} {t' : Ts} {L' : List Rg} (h : StartP (regT (regT (ts0 gm gg gt) 1 [1, 2, 3] 5 true v1) 2 [] 8 false v2) [] 0 n r t' L') : n = 4096 ∧ r = 0 ∧ (∃ g, t' = { regT (regT (ts0 gm gg gt) 1 [1, 2, 3] 5 true v1) 2 [] 8 false v2 with sd := true, tl := [⟨0, 4096, g, [], 0, 0⟩], tc := 1 }) ∧ L' = awL1 := by
  unfold StartP at h
  have e8 : max 8 (regT (regT (ts0 gm gg gt) 1 [1, 2, 3] 5 true v1) 2 [] 8 false v2).ar = 8 := by show max 8 (wrap64 (0 + upT 5)) = 8; decide +kernel
  rw [e8, awL0_at] at h
  rw [if_neg (by rintro (hh | hh | hh); exact absurd hh (by show ¬ (false = true); decide); exact absurd hh (by decide); exact absurd hh (by decide)), if_pos rfl] at h
  obtain ⟨h1, h2, ⟨g, h3⟩, mz, h4, h5⟩ := h
  have e9 : mz = [newM (ts0 gm gg gt) 1 [1, 2, 3] 5 true v1] := List.perm_singleton.1 h4
  subst e9
  refine ⟨h1, h2, ⟨g, h3⟩, ?_⟩
  rw [h5]
  show (setS awL0 (wrap64 (4096 + 0)) _ 0).1 = _
  rw [show wrap64 (4096 + 0) = 4096 by decide +kernel]
  rfl
/-- The state behind Start. -/
def awT (gm gg gt : Nat) (v1 v2 : Value) (g : Nat) : Ts := { regT (regT (ts0 gm gg gt) 1 [1, 2, 3] 5 true v1) 2 [] 8 false v2 with sd := true, tl := [⟨0, 4096, g, [], 0, 0⟩], tc := 1 }
def awL2 : List Rg := (mapS awL1 8 3).1
theorem awL1_at : mapS awL1 8 3 = (awL2, 4160, 0) := by decide +kernel
theorem aw_addr {gm gg gt : Nat} {v1 v2 : Value} {g : Nat} {p r : Int} {t' : Ts} {L' : List Rg} (h : AddrP (awT gm gg gt v1 v2 g) awL1 0 2 7 p r t' L') : p = 4167 ∧ r = 0 ∧ ∃ tl, t' = { awT gm gg gt v1 v2 g with tl := tl } := by
  have h' : (if (7 : Int) < 0 ∨ (8 : Int) ≤ 7 then p = 0 ∧ r = 1 ∧ t' = awT gm gg gt v1 v2 g ∧ L' = awL1
      else if false = true then p = wrap64 (wrap64 (4096 + 0) + 7) ∧ r = 0 ∧ t' = awT gm gg gt v1 v2 g ∧ L' = awL1
      else AddrBP (awT gm gg gt v1 v2 g) awL1 0 2 7 ⟨0, 4096, g, [], 0, 0⟩ (newM (regT (ts0 gm gg gt) 1 [1, 2, 3] 5 true v1) 2 [] 8 false v2) p r t' L') := h
  rw [if_neg (by decide), if_neg (by decide)] at h'
  have h2 : (if (mapS awL1 8 3).2.2 = 0 then p = wrap64 ((mapS awL1 8 3).2.1 + 7) ∧ r = 0 ∧ t' = { awT gm gg gt v1 v2 g with tl := addB 0 2 ⟨0, 4096, g, [], 0, 0⟩ (newM (regT (ts0 gm gg gt) 1 [1, 2, 3] 5 true v1) 2 [] 8 false v2) (mapS awL1 8 3).2.1 (awT gm gg gt v1 v2 g).tl } ∧ L' = (setS (mapS awL1 8 3).1 (mapS awL1 8 3).2.1 (fullB (newM (regT (ts0 gm gg gt) 1 [1, 2, 3] 5 true v1) 2 [] 8 false v2).x) 0).1
      else p = 0 ∧ r = (mapS awL1 8 3).2.2 ∧ t' = awT gm gg gt v1 v2 g ∧ L' = (mapS awL1 8 3).1) := h'
  rw [awL1_at, if_pos rfl] at h2
  obtain ⟨a, b, c, -⟩ := h2
  exact ⟨by rw [a]; decide +kernel, b, _, c⟩
theorem aw_reg3 {gm gg gt : Nat} {v1 v2 : Value} {g : Nat} {tl : List ThE} {n r : Int} {t' : Ts} (h : RegP { awT gm gg gt v1 v2 g with tl := tl } [] 1 true n r t') : n = 0 ∧ r = 172 ∧ t' = { awT gm gg gt v1 v2 g with tl := tl } := by
  unfold RegP at h
  rw [if_neg (by decide), if_pos ⟨rfl, rfl⟩] at h
  exact h
theorem aw_rel {gm gg gt : Nat} {v1 v2 : Value} {g : Nat} {tl : List ThE} {L : List Rg} {r : Int} {t' : Ts} {L' : List Rg} (h : RelP { awT gm gg gt v1 v2 g with tl := tl } L 2 r t' L') : r = 0 ∧ gget t'.gl 2 = 1 := by
  have h' : (if false = true then r = 172 ∧ t' = { awT gm gg gt v1 v2 g with tl := tl } ∧ L' = L else r = 0 ∧ t' = { awT gm gg gt v1 v2 g with tl := tl.map (dropB 2), ml := edel MdE.k (awT gm gg gt v1 v2 g).ml 2 } ∧ ∃ az, az.Perm (gath 2 tl) ∧ L' = unmapsS L az) := h
  rw [if_neg (by decide)] at h'
  obtain ⟨a, rfl, -⟩ := h'
  refine ⟨a, ?_⟩
  show wrap64 (0 + 1) = 1
  decide +kernel
end Go.Proofs.YtpenejigebkkmaaGreat

namespace Go.Proofs.YtpenejigebkkmaaGreat
open Go.RowKit Spm
set_option linter.unusedVariables false
set_option linter.unusedSimpArgs false
attribute [local irreducible] wpList

theorem src_three {w : World} {g : Nat} (h : Blk w g 5 #[.int .u8 1, .int .u8 2, .int .u8 3]) : SrcB w (some ⟨g, 0, none⟩) [1, 2, 3] := fun _ => ⟨g, 0, rfl, fun j x hj => by
  rw [Nat.zero_add, h.cell]
  match j, hj with
  | 0, hj => cases hj; rfl
  | 1, hj => cases hj; rfl
  | 2, hj => cases hj; rfl
  | j + 3, hj => simp at hj⟩
set_option maxRecDepth 100000 in
set_option maxHeartbeats 4000000 in
theorem tawake_any {B : Nat} {w wr : World} {Y : Res} [hY : Fr Y] (h : Has B w wr Y) : Calls Tryz.prog 4 #[] wr fun e w' => e = .returned (.bool true) ∧ Has B w w' Y := by
  have C1 := Lib.hid (tnew_any h)
  clear h
  go_enter Tryz.func4, Tryz.ntmps4
  go_wp2_with fail
  refine (C1.out).mono ?_
  rintro e w2 ⟨s, gm, gg, gt, rfl, m⟩
  have C2 := Lib.hid (own_new m)
  clear m C1
  go_wp2_with fail
  refine (C2.out).mono ?_
  rintro e w3 ⟨a, rfl, m⟩
  have Na := Lib.hid (m.newcel 5 #[.int .u8 1, .int .u8 2, .int .u8 3])
  have hne : w3.heap.size ≠ gg := fun e => by
    have h1 : (w3.alloc (.cells #[.int .u8 1, .int .u8 2, .int .u8 3] 5)).heap[w3.heap.size]? = _ := Na.out.getc w3.heap.size
    have h2 : (w3.alloc (.cells #[.int .u8 1, .int .u8 2, .int .u8 3] 5)).heap[gg]? = _ := Na.out.getm (ts0 gm gg gt).gg
    rw [← e, h1] at h2
    cases h2
  have Nb := Lib.hid (Na.out.norm (Tl s (ts0 gm gg gt) (Star (Sp a []) (Star (Cel w3.heap.size 5 #[.int .u8 1, .int .u8 2, .int .u8 3]) Y))))
  have C3 := Lib.hid (treg_any Nb.out (TInv.new gm gg gt).key (c := 3) (src_three (Na.out.getc w3.heap.size)) (fun _ p hp e => by cases hp; exact hne e) 5 true)
  clear m C2 hne
  go_wp2_with fail
  refine (C3.out).mono ?_
  intro e w4 hE
  obtain ⟨n1, r1, t1, hP, rfl, m⟩ := RegE.plain hE
  have hI1 := (TInv.new gm gg gt).reg hP
  obtain ⟨rfl, rfl, v1, rfl⟩ := aw_reg1 hP
  have C4 := Lib.hid (treg_any m hI1.key (A := none) (c := 0) (tm := []) (fun hh => absurd rfl hh) (fun hh => absurd rfl hh) 8 false)
  clear hE hP C3 Na Nb
  have HI1 := Lib.hid hI1
  clear hI1
  go_wp2_with fail
  refine (C4.out).mono ?_
  intro e w5 hE
  obtain ⟨n1, r1, t1, hP, rfl, m⟩ := RegE.plain hE
  have hI2 := HI1.out.reg hP
  obtain ⟨rfl, rfl, v2, rfl⟩ := aw_reg2 hP
  have C5 := Lib.hid (tstart_any m hI2.good hI2.ok 0)
  have HI2 := Lib.hid hI2
  clear hE hP C4 HI1 hI2
  go_wp2_with fail
  refine (C5.out).mono ?_
  intro e w6 hE
  obtain ⟨n1, r1, t1, L1, hP, rfl, m⟩ := StartE.plain hE
  have hI3 := HI2.out.start hP
  obtain ⟨rfl, rfl, ⟨g, rfl⟩, rfl⟩ := aw_start hP
  have C6 := Lib.hid (taddr_any m hI3.ok 0 2 7)
  have HI3 := Lib.hid hI3
  clear hE hP C5 HI2 hI3
  go_wp2_with fail
  refine (C6.out).mono ?_
  intro e w7 hE
  obtain ⟨n1, r1, t1, L1, hP, rfl, m⟩ := AddrE.plain hE
  have hI4 := HI3.out.addr hP
  obtain ⟨rfl, rfl, tl, rfl⟩ := aw_addr hP
  have C7 := Lib.hid (treg_any m hI4.key (A := none) (c := 0) (tm := []) (fun hh => absurd rfl hh) (fun hh => absurd rfl hh) 1 true)
  have HI4 := Lib.hid hI4
  clear hE hP C6 HI3 hI4
  go_wp2_with fail
  refine (C7.out).mono ?_
  intro e w8 hE
  obtain ⟨n1, r1, t1, hP, rfl, m⟩ := RegE.plain hE
  obtain ⟨rfl, rfl, rfl⟩ := aw_reg3 hP
  have C8 := Lib.hid (trel_any m HI4.out.good 2)
  clear hE hP C7
  go_wp2_with fail
  refine (C8.out).mono ?_
  intro e w9 hE
  obtain ⟨r1, t1, L2, hP, rfl, m⟩ := RelE.plain hE
  obtain ⟨rfl, hgen⟩ := aw_rel hP
  have C9 := Lib.hid (tgen_any m 2)
  rw [hgen] at C9
  have MZ := Lib.hid (m.norm Y)
  clear hE hP C8 hgen
  go_wp2_with fail
  refine (C9.out).mono ?_
  rintro e w10 ⟨rfl, rfl⟩
  clear C9
  go_wp2_with fail
  go_ret
  exact ⟨rfl, MZ.out⟩
end Go.Proofs.YtpenejigebkkmaaGreat
