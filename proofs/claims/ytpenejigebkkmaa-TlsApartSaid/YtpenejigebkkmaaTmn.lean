/-
  Layer 17: an act by the program (does): the kind 5, and no kind.
  Conditions: none. (My own text.)
-/
import Derived.Test.YtpenejigebkkmaaTml
namespace Go.Proofs.Ytpenejigebkkmaa
open Go.RowKit Spm
set_option linter.unusedVariables false
set_option linter.unusedSimpArgs false

attribute [local irreducible] wpList
set_option maxRecDepth 100000 in
set_option maxHeartbeats 4000000 in
theorem tdoes_none {B : Nat} {w wr : World} {Y : Res} [hY : Fr Y] {s a : Nat} {t : Ts} {L : List Rg} (h : Has B w wr (Tl s t (Star (Sp a L) Y))) (hi : TInv t) (x : TAct) (A : Option Addr) (c : Nat) (hd : x.d ≠ 1 ∧ x.d ≠ 2 ∧ x.d ≠ 3 ∧ x.d ≠ 4 ∧ x.d ≠ 5 ∧ x.d ≠ 6) : Calls Try.prog 25 #[.pointer (some ⟨s, 0, none⟩), .pointer (some ⟨a, 0, none⟩), .agg (actA x A c)] wr (DoesE s a t L Y B w x) := by
  obtain ⟨xd, xn, xth, xsz, xst, xb⟩ := x
  obtain ⟨h1, h2, h3, h4, h5, h6⟩ : xd ≠ 1 ∧ xd ≠ 2 ∧ xd ≠ 3 ∧ xd ≠ 4 ∧ xd ≠ 5 ∧ xd ≠ 6 := hd
  have HE : Hid (∀ w', Has B w w' (Tl s t (Star (Sp a L) Y)) → DoesE s a t L Y B w ⟨xd, xn, xth, xsz, xst, xb⟩ (.returned (.tuple #[.int .i64 0, .int .i64 0])) w') := Lib.hid (fun w' hh => ⟨0, 0, t, L, by unfold DoesT; rw [if_neg h1, if_neg h2, if_neg h3, if_neg h4, if_neg (fun hx => hx.elim h5 h6)]; exact ⟨rfl, rfl, rfl, rfl⟩, rfl, hh⟩)
  have HI := Lib.hid hi
  have hA : actA ⟨xd, xn, xth, xsz, xst, xb⟩ A c = #[.int .i64 xd, .int .i64 xn, .int .i64 xth, .int .i64 xsz, .bool xst, .slice A xb.length c] := rfl
  rw [hA]
  clear hA
  obtain ⟨M0, hM0⟩ : ∃ M0 : Hid (Has B w wr (Tl s t (Star (Sp a L) Y))), M0 = Lib.hid h := ⟨_, rfl⟩
  clear hM0 h hi
  have M1 := Lib.hid (M0.out.newcel 57 #[.int .i64 xd, .int .i64 xn, .int .i64 xth, .int .i64 xsz, .bool xst, .slice A xb.length c])
  go_enter Try.func25, Try.ntmps25
  go_upto_region 1 with fail
  obtain ⟨W, hW⟩ : ∃ W, wr.alloc (.cells #[.int .i64 xd, .int .i64 xn, .int .i64 xth, .int .i64 xsz, .bool xst, .slice A xb.length c] 57) = W := ⟨_, rfl⟩
  rw [hW] at M1 ⊢
  clear hW M0
  generalize wr.heap.size = q at M1 ⊢
  have q0 : W.cell? ⟨q, 0, none⟩ = some (.int .i64 xd) := M1.out.cellat q 0 rfl
  have NZ := Lib.hid (M1.out.norm (Tl s t (Star (Sp a L) Y)))
  clear M1
  go_wp2_with fail
  go_ret2
  exact HE.out _ NZ.out
set_option maxRecDepth 100000 in
set_option maxHeartbeats 4000000 in
theorem tdoes_addr {B : Nat} {w wr : World} {Y : Res} [hY : Fr Y] {s a : Nat} {t : Ts} {L : List Rg} (h : Has B w wr (Tl s t (Star (Sp a L) Y))) (hi : TInv t) (x : TAct) (A : Option Addr) (c : Nat) (hd : x.d = 5) : Calls Try.prog 25 #[.pointer (some ⟨s, 0, none⟩), .pointer (some ⟨a, 0, none⟩), .agg (actA x A c)] wr (DoesE s a t L Y B w x) := by
  obtain ⟨xd, xn, xth, xsz, xst, xb⟩ := x
  obtain rfl : xd = 5 := hd
  have HI := Lib.hid hi
  have hA : actA ⟨5, xn, xth, xsz, xst, xb⟩ A c = #[.int .i64 5, .int .i64 xn, .int .i64 xth, .int .i64 xsz, .bool xst, .slice A xb.length c] := rfl
  rw [hA]
  clear hA
  obtain ⟨M0, hM0⟩ : ∃ M0 : Hid (Has B w wr (Tl s t (Star (Sp a L) Y))), M0 = Lib.hid h := ⟨_, rfl⟩
  clear hM0 h hi
  have M1 := Lib.hid (M0.out.newcel 57 #[.int .i64 5, .int .i64 xn, .int .i64 xth, .int .i64 xsz, .bool xst, .slice A xb.length c])
  go_enter Try.func25, Try.ntmps25
  go_upto_region 1 with fail
  obtain ⟨W, hW⟩ : ∃ W, wr.alloc (.cells #[.int .i64 5, .int .i64 xn, .int .i64 xth, .int .i64 xsz, .bool xst, .slice A xb.length c] 57) = W := ⟨_, rfl⟩
  rw [hW] at M1 ⊢
  clear hW M0
  generalize wr.heap.size = q at M1 ⊢
  have q0 : W.cell? ⟨q, 0, none⟩ = some (.int .i64 5) := M1.out.cellat q 0 rfl
  have q1 : W.cell? ⟨q, 1, none⟩ = some (.int .i64 xn) := M1.out.cellat q 1 rfl
  have q2 : W.cell? ⟨q, 2, none⟩ = some (.int .i64 xth) := M1.out.cellat q 2 rfl
  have q3 : W.cell? ⟨q, 3, none⟩ = some (.int .i64 xsz) := M1.out.cellat q 3 rfl
  have NA := Lib.hid (M1.out.norm (Tl s t (Star (Sp a L) (Star (Cel q 57 #[.int .i64 5, .int .i64 xn, .int .i64 xth, .int .i64 xsz, .bool xst, .slice A xb.length c]) Y))))
  have C := Lib.hid (taddr_any NA.out HI.out.ok xth xn xsz)
  clear M1
  go_wp2_with fail
  refine (C.out).mono ?_
  intro e w1 hE
  obtain ⟨n1, r1, t1, L1, hP, rfl, m⟩ := AddrE.plain hE
  have m0 : w1.cell? ⟨q, 0, none⟩ = some (.int .i64 5) := m.cellat q 0 rfl
  have MZ := Lib.hid (m.norm (Tl s t1 (Star (Sp a L1) Y)))
  have HE : Hid (DoesE s a t L Y B w ⟨5, xn, xth, xsz, xst, xb⟩ (.returned (.tuple #[.int .i64 n1, .int .i64 r1])) w1) := Lib.hid ⟨_, _, t1, L1, by
    unfold DoesT
    rw [if_neg (show ¬ (5 : Int) = 1 by decide), if_neg (show ¬ (5 : Int) = 2 by decide), if_neg (show ¬ (5 : Int) = 3 by decide), if_neg (show ¬ (5 : Int) = 4 by decide), if_pos (.inl rfl)]
    exact ⟨L1, hP, by rw [if_neg (fun hx => absurd hx.2.1 (show ¬ (5 : Int) = 6 by decide))]⟩, rfl, MZ.out⟩
  clear hE hP m MZ C q0 q1 q2 q3
  by_cases hr : r1 = 0
  · subst hr
    go_wp2_with fail
    go_ret2
    exact HE.out
  · go_wp2_with fail
    go_ret2
    exact HE.out
end Go.Proofs.Ytpenejigebkkmaa
