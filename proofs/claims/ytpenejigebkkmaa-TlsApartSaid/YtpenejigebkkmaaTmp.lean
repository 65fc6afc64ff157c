/-
  Layer 17: an act by the program (does): the kind 6, and whatever kind.
  Conditions: none. (My own text.)
-/
import Derived.Test.YtpenejigebkkmaaTmo
namespace Go.Proofs.Ytpenejigebkkmaa
open Go.RowKit Spm
set_option linter.unusedVariables false
set_option linter.unusedSimpArgs false

attribute [local irreducible] wpList
theorem addrP_hi {t : Ts} {L : List Rg} {id n off p r : Int} {t' : Ts} {L' : List Rg} (h : AddrP t L id n off p r t' L') : p ≤ 9223372036854775807 := by
  have hw : ∀ z : Int, wrap64 z ≤ 9223372036854775807 := fun z => by unfold wrap64; omega
  unfold AddrP at h
  cases hf : efind ThE.k t.tl id with
  | none => rw [hf] at h; rw [h.1]; omega
  | some x =>
    rw [hf] at h
    dsimp only at h
    cases hm : efind MdE.k t.ml n with
    | none => rw [hm] at h; rw [h.1]; omega
    | some y =>
      rw [hm] at h
      dsimp only at h
      split at h
      · rw [h.1]; omega
      · split at h
        · rw [h.1]; exact hw _
        · unfold AddrBP at h
          split at h
          · rw [h.1]; exact hw _
          · split at h
            · rw [h.1]; exact hw _
            · rw [h.1]; omega
set_option maxRecDepth 100000 in
set_option maxHeartbeats 4000000 in
theorem tdoes_store {B : Nat} {w wr : World} {Y : Res} [hY : Fr Y] {s a : Nat} {t : Ts} {L : List Rg} (h : Has B w wr (Tl s t (Star (Sp a L) Y))) (hi : TInv t) (x : TAct) (A : Option Addr) (c : Nat) (hd : x.d = 6) (hb : x.b.length ≤ 140737488351232) (hsb : ∀ w', Below B w w' → SrcB w' A x.b) : Calls Try.prog 25 #[.pointer (some ⟨s, 0, none⟩), .pointer (some ⟨a, 0, none⟩), .agg (actA x A c)] wr (DoesE s a t L Y B w x) := by
  obtain ⟨xd, xn, xth, xsz, xst, xb⟩ := x
  obtain rfl : xd = 6 := hd
  have HSB : Hid (∀ w', Below B w w' → SrcB w' A xb) := Lib.hid hsb
  have hb' : xb.length ≤ 140737488351232 := hb
  clear hsb hb
  have HI := Lib.hid hi
  have hA : actA ⟨6, xn, xth, xsz, xst, xb⟩ A c = #[.int .i64 6, .int .i64 xn, .int .i64 xth, .int .i64 xsz, .bool xst, .slice A xb.length c] := rfl
  rw [hA]
  clear hA
  obtain ⟨M0, hM0⟩ : ∃ M0 : Hid (Has B w wr (Tl s t (Star (Sp a L) Y))), M0 = Lib.hid h := ⟨_, rfl⟩
  clear hM0 h hi
  obtain ⟨kb, hkb⟩ : ∃ kb, xb.length = kb := ⟨_, rfl⟩
  rw [hkb] at hb' ⊢
  have HKB := Lib.hid hkb
  clear hkb
  have M1 := Lib.hid (M0.out.newcel 57 #[.int .i64 6, .int .i64 xn, .int .i64 xth, .int .i64 xsz, .bool xst, .slice A kb c])
  go_enter Try.func25, Try.ntmps25
  go_upto_region 1 with fail
  obtain ⟨W, hW⟩ : ∃ W, wr.alloc (.cells #[.int .i64 6, .int .i64 xn, .int .i64 xth, .int .i64 xsz, .bool xst, .slice A kb c] 57) = W := ⟨_, rfl⟩
  rw [hW] at M1 ⊢
  clear hW M0
  generalize wr.heap.size = q at M1 ⊢
  have q0 : W.cell? ⟨q, 0, none⟩ = some (.int .i64 6) := M1.out.cellat q 0 rfl
  have q1 : W.cell? ⟨q, 1, none⟩ = some (.int .i64 xn) := M1.out.cellat q 1 rfl
  have q2 : W.cell? ⟨q, 2, none⟩ = some (.int .i64 xth) := M1.out.cellat q 2 rfl
  have q3 : W.cell? ⟨q, 3, none⟩ = some (.int .i64 xsz) := M1.out.cellat q 3 rfl
  have NA := Lib.hid (M1.out.norm (Tl s t (Star (Sp a L) (Star (Cel q 57 #[.int .i64 6, .int .i64 xn, .int .i64 xth, .int .i64 xsz, .bool xst, .slice A kb c]) Y))))
  have C := Lib.hid (taddr_any NA.out HI.out.ok xth xn xsz)
  clear M1
  go_wp2_with fail
  refine (C.out).mono ?_
  intro e w1 hE
  obtain ⟨n1, r1, t1, L1, hP, rfl, m⟩ := AddrE.plain hE
  have m0 : w1.cell? ⟨q, 0, none⟩ = some (.int .i64 6) := m.cellat q 0 rfl
  have m5 : w1.cell? ⟨q, 5, none⟩ = some (.slice A kb c) := m.cellat q 5 rfl
  have HM := Lib.hid m
  have HP := Lib.hid hP
  have HDT : Hid (∀ w' L', L' = (if r1 = 0 ∧ 0 < kb then (setS L1 n1 (xb.take 1) 2).1 else L1) → Has B w w' (Tl s t1 (Star (Sp a L') Y)) → DoesE s a t L Y B w ⟨6, xn, xth, xsz, xst, xb⟩ (.returned (.tuple #[.int .i64 n1, .int .i64 r1])) w') := Lib.hid (fun w' L' hL hh => ⟨_, _, t1, L', by
    unfold DoesT
    rw [if_neg (show ¬ (6 : Int) = 1 by decide), if_neg (show ¬ (6 : Int) = 2 by decide), if_neg (show ¬ (6 : Int) = 3 by decide), if_neg (show ¬ (6 : Int) = 4 by decide), if_pos (.inr rfl)]
    refine ⟨L1, hP, ?_⟩
    rw [hL]
    show _ = if r1 = 0 ∧ (6 : Int) = 6 ∧ 0 < xb.length then (setS L1 n1 (xb.take 1) 2).1 else L1
    rw [HKB.out]
    by_cases hc : r1 = 0 ∧ 0 < kb
    · rw [if_pos hc, if_pos ⟨hc.1, rfl, hc.2⟩]
    · rw [if_neg hc, if_neg (fun hx => hc ⟨hx.1, hx.2.2⟩)], rfl, hh⟩)
  clear hE hP m C q0 q1 q2 q3 NA
  by_cases hr : r1 = 0
  · subst hr
    by_cases hk : 0 < kb
    · cases xb with
      | nil => exact absurd hk (by rw [← HKB.out]; decide)
      | cons x0 rest =>
        obtain ⟨bb, off, hA2, hc2⟩ := HSB.out w1 HM.out.bel (by simp)
        have c0 : w1.cell? ⟨bb, off, none⟩ = some (.int .u8 x0.toNat) := hc2 0 x0 rfl
        obtain ⟨kc, rfl⟩ : ∃ kc, kb = kc + 1 := ⟨kb - 1, by omega⟩
        subst hA2
        have Nb := Lib.hid (HM.out.newcel 5 #[.int .u8 x0.toNat])
        have HSC : Hid (SrcB (w1.alloc (.cells #[.int .u8 x0.toNat] 5)) (some ⟨w1.heap.size, 0, none⟩) [x0]) := Lib.hid (fun _ => ⟨w1.heap.size, 0, rfl, fun j x hj => by
          match j, hj with
          | 0, hj =>
            obtain rfl : x0 = x := by simpa using hj
            exact Nb.out.cellat w1.heap.size 0 rfl
          | j + 1, hj => simp at hj⟩)
        have C3 := Lib.hid (own_write (Nb.out.pick (Sp a L1)) n1 (addrP_hi HP.out) (some ⟨w1.heap.size, 0, none⟩) 1 [x0] (by show (1 : Nat) ≤ _; omega) HSC.out)
        clear hc2
        go_upto_region 18 with fail
        go_wp2_with fail
        refine (C3.out).mono ?_
        rintro e w3 ⟨rfl, m⟩
        have MZ := Lib.hid (m.norm (Tl s t1 (Star (Sp a (setS L1 n1 [x0] 2).1) Y)))
        have HE := Lib.hid (HDT.out w3 (setS L1 n1 [x0] 2).1 (by rw [if_pos ⟨by first | trivial | rfl, by omega⟩]; rfl) MZ.out)
        clear m MZ C3
        go_wp2_with fail
        go_ret2
        exact HE.out
    · obtain rfl : kb = 0 := by omega
      have MZ := Lib.hid (HM.out.norm (Tl s t1 (Star (Sp a L1) Y)))
      have HE := Lib.hid (HDT.out w1 L1 (by rw [if_neg (fun hx => absurd hx.2 (by decide))]) MZ.out)
      go_wp2_with fail
      go_ret2
      exact HE.out
  · have MZ := Lib.hid (HM.out.norm (Tl s t1 (Star (Sp a L1) Y)))
    have HE := Lib.hid (HDT.out w1 L1 (by rw [if_neg (fun hx => hr hx.1)]) MZ.out)
    go_wp2_with fail
    go_ret2
    exact HE.out
theorem tdoes_any {B : Nat} {w wr : World} {Y : Res} [hY : Fr Y] {s a : Nat} {t : Ts} {L : List Rg} (h : Has B w wr (Tl s t (Star (Sp a L) Y))) (hi : TInv t) (x : TAct) (A : Option Addr) (c : Nat) (hb : x.b.length ≤ 140737488351232) (hsb : ∀ w', Below B w w' → SrcB w' A x.b) (hlt : x.b ≠ [] → ∀ p, A = some p → p.block < B) : Calls Try.prog 25 #[.pointer (some ⟨s, 0, none⟩), .pointer (some ⟨a, 0, none⟩), .agg (actA x A c)] wr (DoesE s a t L Y B w x) := by
  by_cases h1 : x.d = 1
  · exact tdoes_reg h hi x A c h1 hb hsb hlt
  by_cases h2 : x.d = 2
  · exact tdoes_rel h hi x A c h2
  by_cases h3 : x.d = 3
  · exact tdoes_start h hi x A c h3
  by_cases h4 : x.d = 4
  · exact tdoes_exit h hi x A c h4
  by_cases h5 : x.d = 5
  · exact tdoes_addr h hi x A c h5
  by_cases h6 : x.d = 6
  · exact tdoes_store h hi x A c h6 hb hsb
  exact tdoes_none h hi x A c ⟨h1, h2, h3, h4, h5, h6⟩
end Go.Proofs.Ytpenejigebkkmaa
