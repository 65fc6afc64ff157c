/-
  Layer 6: the document's step is the program's.
  Layer 6: the document's run is the program's.
  Conditions: none. (My own text.)
-/
import Derived.Test.YtkpaeogjefjbfaaCrd
import Derived.Test.YtkpaeogjefjbfaaCrf
import Derived.Test.YtkpaeogjefjbfaaCrg
import Derived.Test.YtkpaeogjefjbfaaCrh
import Derived.Test.YtkpaeogjefjbfaaCst
import Derived.Test.YtkpaeogjefjbfaaPk
import Derived.Test.YtkpaeogjefjbfaaCpn
namespace Go.Proofs.Ytkpaeogjefjbfaa
open Go.RowKit Spm
set_option linter.unusedVariables false
set_option linter.unusedSimpArgs false

theorem stepS_of {D : Ctx} {L : List Rg} {i : Ins} (h0 : D.pc ≠ 0) (hT : toldS D L = (i, 0)) :
    mayS i = true ∧ stepS D L = if (actS D L i (wrap64 (D.pc + 8))).2.1.k = 5 then (D, (actS D L i (wrap64 (D.pc + 8))).2.1, (actS D L i (wrap64 (D.pc + 8))).2.2) else actS D L i (wrap64 (D.pc + 8)) := by
  unfold toldS at hT
  by_cases he : (getS L D.pc 8 4).2 = 0
  · rw [if_pos he] at hT
    by_cases hm : mayS (insK (getS L D.pc 8 4).1 0) = true
    · rw [if_pos hm] at hT
      have hi : insK (getS L D.pc 8 4).1 0 = i := (Prod.mk.inj hT).1
      refine ⟨hi ▸ hm, ?_⟩
      unfold stepS
      rw [if_neg h0, if_neg (by simpa using he), if_neg (by rw [hm]; decide), hi]
    · rw [if_neg hm] at hT
      exact absurd (Prod.mk.inj hT).2 (by decide)
  · rw [if_neg he] at hT
    exact absurd (Prod.mk.inj hT).2 he
theorem stepS_told {D : Ctx} {L : List Rg} {i : Ins} {E : Int} (h0 : D.pc ≠ 0) (hT : toldS D L = (i, E)) (hE : E ≠ 0) : stepS D L = (D, trapV E, L) := by
  unfold toldS at hT
  unfold stepS
  rw [if_neg h0]
  by_cases he : (getS L D.pc 8 4).2 = 0
  · rw [if_pos he] at hT
    rw [if_neg (by simpa using he)]
    by_cases hm : mayS (insK (getS L D.pc 8 4).1 0) = true
    · rw [if_pos hm] at hT
      exact absurd (Prod.mk.inj hT).2.symm hE
    · rw [if_neg hm] at hT
      rw [if_pos (by simpa using hm), ← (Prod.mk.inj hT).2]
  · rw [if_neg he] at hT
    rw [if_pos he, ← (Prod.mk.inj hT).2]
def fin5 (D : Ctx) (r : Ctx × Evt × List Rg) : Ctx × Evt × List Rg := if r.2.1.k = 5 then (D, r.2.1, r.2.2) else r
theorem fin5_ev0 (D C : Ctx) (L : List Rg) : fin5 D (C, ev0, L) = (C, ev0, L) := rfl
theorem fin5_trap (D C : Ctx) (x : Int) (L : List Rg) : fin5 D (C, trapV x, L) = (D, trapV x, L) := rfl
theorem cal_eq (D : Ctx) (L : List Rg) (nx t : Int) : fin5 D (calC D nx t (setS L (wrap64 (D.r 15 - 8)) (bytesS nx) 2).2, stE (setS L (wrap64 (D.r 15 - 8)) (bytesS nx) 2).2, (setS L (wrap64 (D.r 15 - 8)) (bytesS nx) 2).1) = calledS { D with pc := nx } D L t := by
  unfold calledS
  simp only
  generalize setS L (wrap64 (D.r 15 - 8)) (bytesS nx) 2 = q
  by_cases hq : q.2 = 0
  · rw [if_pos hq, hq]; rfl
  · rw [if_neg hq, show stE q.2 = trapV q.2 from if_neg hq, fin5_trap]
theorem ret_eq (D : Ctx) (L : List Rg) (nx : Int) (q : Int × Int) : fin5 D (retC D nx q, stE q.2, L) = (if q.2 = 0 then ({ D with pc := q.1, r := upd D.r 15 (wrap64 (D.r 15 + 8)) }, ev0, L) else (D, trapV q.2, L)) := by
  obtain ⟨v, E⟩ := q
  by_cases hq : E = 0
  · rw [if_pos hq]; subst hq; rfl
  · rw [if_neg hq, show stE E = trapV E from if_neg hq, fin5_trap]
theorem ld_eq (D : Ctx) (L : List Rg) (nx x : Int) (a : Nat) : fin5 D (ldC { D with pc := nx } a (wordAt L x 1), ldE ev0 (wordAt L x 1), L) = ((loadedS { D with pc := nx } D L a x).1, (loadedS { D with pc := nx } D L a x).2, L) := by
  unfold loadedS
  generalize wordAt L x 1 = q
  obtain ⟨v, E⟩ := q
  by_cases hq : E = 0
  · rw [if_pos hq]; subst hq; rfl
  · rw [if_neg hq, show ldE ev0 (v, E) = trapV E from if_neg hq, fin5_trap]
theorem st_eq (D C : Ctx) (L : List Rg) (q : List Rg × Int) : fin5 D (C, stE q.2, q.1) = (stoC C D q.2, stE q.2, q.1) := by
  obtain ⟨L2, E⟩ := q
  by_cases hq : E = 0
  · subst hq; rfl
  · rw [show stE E = trapV E from if_neg hq, fin5_trap, show stoC C D E = D from if_neg hq]
theorem rk_eq (D : Ctx) (L : List Rg) (nx : Int) (a : Nat) (op x y : Int) : fin5 D (if (rkS op x y).2 = 0 then (putI D nx a (rkS op x y).1, ev0, L) else ({ D with pc := nx }, trapV (rkS op x y).2, L)) = rknS { D with pc := nx } D L a (rkS op x y) := by
  have h1 : (rkS op x y).2 = 0 ∨ (rkS op x y).2 = 1 := by
    unfold rkS
    split; exact .inl rfl
    split; exact .inl rfl
    split; exact .inl rfl
    split; exact .inl rfl
    split; exact .inl rfl
    split; exact .inr rfl; exact .inl rfl
  generalize rkS op x y = q at h1
  obtain ⟨v, E⟩ := q
  unfold rknS putI
  rcases h1 with h | h <;> (simp only at h; subst h; rfl)

section
variable {B : Nat} {w wr w' : World} {c : Nat} {L : List Rg} {Y : Res}
theorem jumped_any [hY : Fr Y] (h : Has B w wr (Star (Rf c L) Y)) (C D : Ctx) (hC : CtxOk C) (op : Int) {a b cc : Nat} (ha : a < 16) (n : Int) :
    Calls Try.prog 36 #[.agg C.arr, .agg D.arr, .pointer (some ⟨c, 0, none⟩), .agg (insA ⟨op, a, b, cc, n⟩)] wr (JumpE B w c (jumpedS C D L ⟨op, a, b, cc, n⟩) Y) := by
  by_cases h13 : op = 13
  · subst h13; exact jumped_13 h C D hC ha n
  by_cases h14 : op = 14
  · subst h14; exact jumped_14 h C D hC ha n
  by_cases h15 : op = 15
  · subst h15; exact jumped_15 h C D hC ha n
  by_cases h16 : op = 16
  · subst h16; exact jumped_16 h C D hC ha n
  by_cases h17 : op = 17
  · subst h17; exact jumped_17 h C D hC ha n
  by_cases h18 : op = 18
  · subst h18; exact jumped_18 h C D hC ha n
  exact jumped_not h C D hC ha op n h13 h14 h15 h16 h17 h18

set_option maxRecDepth 100000 in
theorem rstep_any [hY : Fr Y] (h : Has B w wr (Star (Rf c L) Y)) (D : Ctx) (hC : CtxOk D) :
    Calls Try.prog 18 #[.agg D.arr, .pointer (some ⟨c, 0, none⟩)] wr (StepE B w c (stepS D L) Y) := by
  by_cases h0 : D.pc = 0
  · rw [show stepS D L = (D, ⟨1, 0, 0, 0, 0⟩, L) by unfold stepS; rw [if_pos h0]]
    exact rstep_zero h D hC h0
  obtain ⟨⟨i, E⟩, hT⟩ : ∃ q, toldS D L = q := ⟨_, rfl⟩
  by_cases hE : E = 0
  · subst hE
    obtain ⟨hm, hS⟩ := stepS_of h0 hT
    have hS : stepS D L = fin5 D (actS D L i (wrap64 (D.pc + 8))) := hS
    obtain ⟨⟨o1, o2⟩, ⟨a1, a2⟩, ⟨b1, b2⟩, ⟨c1, c2⟩, _⟩ := may_rng hm
    obtain ⟨op, a, b, cc, n⟩ := i
    simp only at o1 o2 a1 a2 b1 b2 c1 c2
    obtain ⟨a, rfl⟩ := Int.eq_ofNat_of_zero_le a1
    obtain ⟨b, rfl⟩ := Int.eq_ofNat_of_zero_le b1
    obtain ⟨cc, rfl⟩ := Int.eq_ofNat_of_zero_le c1
    have ha : a < 16 := by omega
    have hb : b < 16 := by omega
    have hc : cc < 16 := by omega
    have hCk : CtxOk { D with pc := wrap64 (D.pc + 8) } := hC.pcs (wrap64_I64 _)
    have HJ : ∀ (w1 : World) (Y2 : Res) (hY2 : Fr Y2), Has B w w1 (Star (Rf c L) Y2) → Calls Try.prog 36 #[.agg (Ctx.arr { D with pc := wrap64 (D.pc + 8) }), .agg D.arr, .pointer (some ⟨c, 0, none⟩), .agg (insA ⟨op, a, b, cc, n⟩)] w1 (JumpE B w c (jumpedS { D with pc := wrap64 (D.pc + 8) } D L ⟨op, a, b, cc, n⟩) Y2) := fun w1 Y2 hY2 m => jumped_any m _ D hCk op ha n
    have HA : ∀ w1 : World, Calls Try.prog 37 #[.agg (insA ⟨op, a, b, cc, n⟩), .agg (Ctx.arr { D with pc := wrap64 (D.pc + 8) })] w1 fun e w' => e = .returned (.tuple #[.agg (askS { D with pc := wrap64 (D.pc + 8) } ⟨op, a, b, cc, n⟩).1.arr, .bool (askS { D with pc := wrap64 (D.pc + 8) } ⟨op, a, b, cc, n⟩).2]) ∧ Below w1.heap.size w1 w' := fun w1 => asked_any _ op ha n w1
    rw [hS]
    clear hS
    by_cases h13 : op = 13
    · subst h13; exact rstep_jump h D hC _ rfl h0 hT _ _ _ HJ
    by_cases h14 : op = 14
    · subst h14; exact rstep_jump h D hC _ rfl h0 hT _ _ _ HJ
    by_cases h17 : op = 17
    · subst h17; exact rstep_jump h D hC _ rfl h0 hT _ _ _ HJ
    by_cases h15 : op = 15
    · subst h15
      rw [show actS D L ⟨15, a, b, cc, n⟩ (wrap64 (D.pc + 8)) = (calC D (wrap64 (D.pc + 8)) (wrap64 (wrap64 (D.pc + 8) + n)) (setS L (wrap64 (D.r 15 - 8)) (bytesS (wrap64 (D.pc + 8))) 2).2, stE (setS L (wrap64 (D.r 15 - 8)) (bytesS (wrap64 (D.pc + 8))) 2).2, (setS L (wrap64 (D.r 15 - 8)) (bytesS (wrap64 (D.pc + 8))) 2).1) from rfl, cal_eq]
      exact rstep_jump h D hC _ rfl h0 hT _ _ _ HJ
    by_cases h16 : op = 16
    · subst h16
      rw [show actS D L ⟨16, a, b, cc, n⟩ (wrap64 (D.pc + 8)) = (calC D (wrap64 (D.pc + 8)) (D.r a) (setS L (wrap64 (D.r 15 - 8)) (bytesS (wrap64 (D.pc + 8))) 2).2, stE (setS L (wrap64 (D.r 15 - 8)) (bytesS (wrap64 (D.pc + 8))) 2).2, (setS L (wrap64 (D.r 15 - 8)) (bytesS (wrap64 (D.pc + 8))) 2).1) from rfl, cal_eq]
      exact rstep_jump h D hC _ rfl h0 hT _ _ _ HJ
    by_cases h18 : op = 18
    · subst h18
      rw [show actS D L ⟨18, a, b, cc, n⟩ (wrap64 (D.pc + 8)) = (retC D (wrap64 (D.pc + 8)) (wordAt L (D.r 15) 1), stE (wordAt L (D.r 15) 1).2, L) from rfl, ret_eq]
      rw [show jumpedS { D with pc := wrap64 (D.pc + 8) } D L ⟨18, a, b, cc, n⟩ = (if (wordAt L (D.r 15) 1).2 = 0 then ({ D with pc := (wordAt L (D.r 15) 1).1, r := upd D.r 15 (wrap64 (D.r 15 + 8)) }, ev0, true, L) else (D, trapV (wordAt L (D.r 15) 1).2, true, L)) from rfl] at HJ
      by_cases hz : (wordAt L (D.r 15) 1).2 = 0
      · rw [if_pos hz] at HJ ⊢
        exact rstep_jump h D hC _ rfl h0 hT _ _ _ HJ
      · rw [if_neg hz] at HJ ⊢
        exact rstep_jump h D hC _ rfl h0 hT _ _ _ HJ
    rw [show jumpedS { D with pc := wrap64 (D.pc + 8) } D L ⟨op, a, b, cc, n⟩ = ({ D with pc := wrap64 (D.pc + 8) }, ev0, false, L) by unfold jumpedS; simp only []; rw [if_neg h13, if_neg h14, if_neg h15, if_neg h16, if_neg h17, if_neg h18]] at HJ
    by_cases h19 : op = 19
    · subst h19; exact rstep_ask h D hC _ rfl h0 hT HJ _ HA
    by_cases h21 : op = 21
    · subst h21; exact rstep_ask h D hC _ rfl h0 hT HJ _ HA
    by_cases h22 : op = 22
    · subst h22; exact rstep_ask h D hC _ rfl h0 hT HJ _ HA
    rw [show askS { D with pc := wrap64 (D.pc + 8) } ⟨op, a, b, cc, n⟩ = (ev0, false) by unfold askS; simp only []; rw [if_neg h19, if_neg h21, if_neg h22]] at HA
    by_cases k0 : op = 0
    · subst k0; exact rstep_halt h D hC _ rfl ha hb hc n h0 hT HJ _ HA
    by_cases k1 : op = 1
    · subst k1; exact rstep_movi h D hC _ rfl ha hb hc n h0 hT HJ _ HA
    by_cases k2 : op = 2
    · subst k2; exact rstep_mov h D hC _ rfl ha hb hc n h0 hT HJ _ HA
    by_cases k9 : op = 9
    · subst k9
      rw [show actS D L ⟨9, a, b, cc, n⟩ (wrap64 (D.pc + 8)) = (ldC { D with pc := wrap64 (D.pc + 8) } a (wordAt L (wrap64 (D.r b + n)) 1), ldE ev0 (wordAt L (wrap64 (D.r b + n)) 1), L) from rfl, ld_eq]
      exact rstep_ld h D hC _ rfl ha hb hc n h0 hT HJ _ HA
    by_cases k10 : op = 10
    · subst k10
      rw [show actS D L ⟨10, a, b, cc, n⟩ (wrap64 (D.pc + 8)) = ({ D with pc := wrap64 (D.pc + 8) }, stE (setS L (wrap64 (D.r b + n)) (bytesS (D.r a)) 2).2, (setS L (wrap64 (D.r b + n)) (bytesS (D.r a)) 2).1) from rfl, st_eq D _ L]
      exact rstep_st h D hC _ rfl ha hb hc n h0 hT HJ _ HA
    by_cases k11 : op = 11
    · subst k11
      rw [show actS D L ⟨11, a, b, cc, n⟩ (wrap64 (D.pc + 8)) = (ldC { D with pc := wrap64 (D.pc + 8) } a (wordAt L (wrap64 (wrap64 (D.pc + 8) + n)) 1), ldE ev0 (wordAt L (wrap64 (wrap64 (D.pc + 8) + n)) 1), L) from rfl, ld_eq]
      exact rstep_ldp h D hC _ rfl ha hb hc n h0 hT HJ _ HA
    by_cases k12 : op = 12
    · subst k12; exact rstep_lea h D hC _ rfl ha hb hc n h0 hT HJ _ HA
    by_cases k20 : op = 20
    · subst k20; exact rstep_tp h D hC _ rfl ha hb hc n h0 hT HJ _ HA
    rw [show actS D L ⟨op, a, b, cc, n⟩ (wrap64 (D.pc + 8)) = (if (rkS op (D.r b) (D.r cc)).2 = 0 then (putI D (wrap64 (D.pc + 8)) a (rkS op (D.r b) (D.r cc)).1, ev0, L) else ({ D with pc := wrap64 (D.pc + 8) }, trapV (rkS op (D.r b) (D.r cc)).2, L)) by
      unfold actS; simp only []; rw [if_neg k0, if_neg k1, if_neg k2, if_neg k9, if_neg k10, if_neg k11, if_neg k12, if_neg h13, if_neg h14, if_neg h15, if_neg h16, if_neg h17, if_neg h18, if_neg h19, if_neg k20, if_neg h21, if_neg h22]; rfl, rk_eq]
    exact rstep_reckon h D hC _ rfl (by omega) ha hb hc n h0 hT HJ _ HA
  · rw [stepS_told h0 hT hE]
    exact rstep_told h D hC h0 hT hE
end
end Go.Proofs.Ytkpaeogjefjbfaa

namespace Go.Proofs.Ytkpaeogjefjbfaa
open Go.RowKit Spm
set_option linter.unusedVariables false
set_option linter.unusedSimpArgs false

def RRunE (B : Nat) (w : World) (c : Nat) (R : Ctx × Evt × Int × List Rg) (Y : Res) (x : Ending) (w' : World) : Prop := x = .returned (.tuple #[.agg R.1.arr, .agg R.2.1.arr, .int .i64 R.2.2.1]) ∧ Has B w w' (Star (Rf c R.2.2.2) Y)
structure RRunI (B : Nat) (w : World) (c b0 b1 b2 : Nat) (R : Ctx × Evt × Int × List Rg) (Y : Res) (M : Nat) (i : Value) (wr : World) (k : Nat) (cx : Ctx) (L : List Rg) : Prop where
  le : k ≤ M
  i : i = .int .i64 k
  own : Has B w wr (Star (Cel b2 40 #[.int .i64 0, .int .i64 0, .int .i64 0, .int .i64 0, .int .i64 0]) (Star (Cel b1 37 #[.int .i64 0, .int .i64 0, .int .i64 0, .int .i64 0, .int .i64 0, .int .i64 0, .int .i64 0, .int .i64 0, .int .i64 0, .int .i64 0, .int .i64 0, .int .i64 0, .int .i64 0, .int .i64 0, .int .i64 0, .int .i64 0, .int .i64 0, .int .i64 0]) (Star (Cel b0 37 cx.arr) (Star (Rf c L) Y))))
  ok : CtxOk cx
  run : runG cx L k (M - k) = R

section
variable {B : Nat} {w wr w' : World} {c : Nat} {L : List Rg} {Y : Res}
set_option maxRecDepth 100000 in
set_option maxHeartbeats 8000000 in
theorem rrun_any [hY : Fr Y] (h : Has B w wr (Star (Rf c L) Y)) (D : Ctx) (hc : CtxOk D) (most : Int) (hm : most ≤ 9223372036854775807) :
    Calls Try.prog 20 #[.agg D.arr, .pointer (some ⟨c, 0, none⟩), .int .i64 most] wr (RRunE B w c (runS D L most) Y) := by
  obtain ⟨R, hR⟩ : ∃ R, runS D L most = R := ⟨_, rfl⟩
  rw [hR]
  have HR := Lib.hid hR
  have HC := Lib.hid hc
  clear hR hc
  obtain ⟨M, hM⟩ : ∃ M : Nat, most.toNat = M := ⟨_, rfl⟩
  have HM := Lib.hid hM
  have hM1 : M ≤ 9223372036854775807 := by omega
  rw [show D.arr = #[.int .i64 D.pc, .int .i64 D.tp, .int .i64 (D.r 0), .int .i64 (D.r 1), .int .i64 (D.r 2), .int .i64 (D.r 3), .int .i64 (D.r 4), .int .i64 (D.r 5), .int .i64 (D.r 6), .int .i64 (D.r 7), .int .i64 (D.r 8), .int .i64 (D.r 9), .int .i64 (D.r 10), .int .i64 (D.r 11), .int .i64 (D.r 12), .int .i64 (D.r 13), .int .i64 (D.r 14), .int .i64 (D.r 15)] from rfl]
  have M0 := Lib.hid (((h.newcel 37 #[.int .i64 D.pc, .int .i64 D.tp, .int .i64 (D.r 0), .int .i64 (D.r 1), .int .i64 (D.r 2), .int .i64 (D.r 3), .int .i64 (D.r 4), .int .i64 (D.r 5), .int .i64 (D.r 6), .int .i64 (D.r 7), .int .i64 (D.r 8), .int .i64 (D.r 9), .int .i64 (D.r 10), .int .i64 (D.r 11), .int .i64 (D.r 12), .int .i64 (D.r 13), .int .i64 (D.r 14), .int .i64 (D.r 15)]).newcel 37 #[.int .i64 0, .int .i64 0, .int .i64 0, .int .i64 0, .int .i64 0, .int .i64 0, .int .i64 0, .int .i64 0, .int .i64 0, .int .i64 0, .int .i64 0, .int .i64 0, .int .i64 0, .int .i64 0, .int .i64 0, .int .i64 0, .int .i64 0, .int .i64 0]).newcel 40 #[.int .i64 0, .int .i64 0, .int .i64 0, .int .i64 0, .int .i64 0])
  go_enter Try.func20, Try.ntmps20
  go_upto_region 1 with (fail)
  have e1 : (wr.alloc (.cells #[.int .i64 D.pc, .int .i64 D.tp, .int .i64 (D.r 0), .int .i64 (D.r 1), .int .i64 (D.r 2), .int .i64 (D.r 3), .int .i64 (D.r 4), .int .i64 (D.r 5), .int .i64 (D.r 6), .int .i64 (D.r 7), .int .i64 (D.r 8), .int .i64 (D.r 9), .int .i64 (D.r 10), .int .i64 (D.r 11), .int .i64 (D.r 12), .int .i64 (D.r 13), .int .i64 (D.r 14), .int .i64 (D.r 15)] 37)).heap.size = wr.heap.size + 1 := by simp
  have e2 : ((wr.alloc (.cells #[.int .i64 D.pc, .int .i64 D.tp, .int .i64 (D.r 0), .int .i64 (D.r 1), .int .i64 (D.r 2), .int .i64 (D.r 3), .int .i64 (D.r 4), .int .i64 (D.r 5), .int .i64 (D.r 6), .int .i64 (D.r 7), .int .i64 (D.r 8), .int .i64 (D.r 9), .int .i64 (D.r 10), .int .i64 (D.r 11), .int .i64 (D.r 12), .int .i64 (D.r 13), .int .i64 (D.r 14), .int .i64 (D.r 15)] 37)).alloc (.cells #[.int .i64 0, .int .i64 0, .int .i64 0, .int .i64 0, .int .i64 0, .int .i64 0, .int .i64 0, .int .i64 0, .int .i64 0, .int .i64 0, .int .i64 0, .int .i64 0, .int .i64 0, .int .i64 0, .int .i64 0, .int .i64 0, .int .i64 0, .int .i64 0] 37)).heap.size = wr.heap.size + 1 + 1 := by simp
  rw [e2, e1] at M0
  obtain ⟨W, hW⟩ : ∃ W, (((wr.alloc (.cells #[.int .i64 D.pc, .int .i64 D.tp, .int .i64 (D.r 0), .int .i64 (D.r 1), .int .i64 (D.r 2), .int .i64 (D.r 3), .int .i64 (D.r 4), .int .i64 (D.r 5), .int .i64 (D.r 6), .int .i64 (D.r 7), .int .i64 (D.r 8), .int .i64 (D.r 9), .int .i64 (D.r 10), .int .i64 (D.r 11), .int .i64 (D.r 12), .int .i64 (D.r 13), .int .i64 (D.r 14), .int .i64 (D.r 15)] 37)).alloc (.cells #[.int .i64 0, .int .i64 0, .int .i64 0, .int .i64 0, .int .i64 0, .int .i64 0, .int .i64 0, .int .i64 0, .int .i64 0, .int .i64 0, .int .i64 0, .int .i64 0, .int .i64 0, .int .i64 0, .int .i64 0, .int .i64 0, .int .i64 0, .int .i64 0] 37)).alloc (.cells #[.int .i64 0, .int .i64 0, .int .i64 0, .int .i64 0, .int .i64 0] 40)) = W := ⟨_, rfl⟩
  rw [hW] at M0 ⊢
  clear e1 e2 hW
  generalize wr.heap.size + 1 + 1 = b2 at M0 ⊢
  generalize wr.heap.size + 1 = b1 at M0 ⊢
  generalize wr.heap.size = b0 at M0 ⊢
  have M1 : Hid (Has B w W (Star (Cel b2 40 #[.int .i64 0, .int .i64 0, .int .i64 0, .int .i64 0, .int .i64 0]) (Star (Cel b1 37 #[.int .i64 0, .int .i64 0, .int .i64 0, .int .i64 0, .int .i64 0, .int .i64 0, .int .i64 0, .int .i64 0, .int .i64 0, .int .i64 0, .int .i64 0, .int .i64 0, .int .i64 0, .int .i64 0, .int .i64 0, .int .i64 0, .int .i64 0, .int .i64 0]) (Star (Cel b0 37 D.arr) (Star (Rf c L) Y))))) := M0
  clear M0
  clear h
  go_wp2_with fail
  go_loopw [9] (fun i wr => ∃ k cx L, Hid (RRunI B w c b0 b1 b2 R Y M i wr k cx L)) (fun i _ => M - (intOf i).toNat)
  case atStart => exact ⟨0, D, L, Lib.hid ⟨Nat.zero_le _, rfl, M1.out, HC.out, by rw [← HR.out]; unfold runS; rw [HM.out]; rfl⟩⟩
  case round =>
    obtain ⟨k, cx, L, hI⟩ := hrel
    obtain ⟨hk, rfl, hown, hok, hrun⟩ := hI.out
    have M2 := Lib.hid hown
    have HRUN := Lib.hid hrun
    have HOK := Lib.hid hok
    clear hI hown hok hrun
    by_cases hkM : k < M
    · have hlt : (k : Int) < most := by omega
      obtain ⟨⟨C2, E2, L2⟩, hQ⟩ : ∃ Q, stepS cx L = Q := ⟨_, rfl⟩
      have C1 := Lib.hid (rstep_any (M2.out.pick (Rf c L)) cx HOK.out)
      have HOK2 := Lib.hid (stepS_ok HOK.out (M2.out.pick (Rf c L)).rok).1
      have HRUN2 := Lib.hid (HRUN.out)
      rw [show M - k = (M - k - 1) + 1 by omega] at HRUN2
      unfold runG at HRUN2
      rw [hQ] at C1 HOK2 HRUN2
      clear hQ HRUN HOK
      simp only at HOK2 HRUN2
      go_wp2_with (first | (refine wpList_load_rowW rfl 37 _ rfl b0 rfl cx.arr _ (M2.out.getc b0) Try.underlying37 rfl (by kernel_rfl) ?_))
      refine (C1.out).mono ?_
      rintro e w3 ⟨rfl, m⟩
      have es : (w3.alloc (.cells #[.int .i64 0, .int .i64 0, .int .i64 0, .int .i64 0, .int .i64 0, .int .i64 0, .int .i64 0, .int .i64 0, .int .i64 0, .int .i64 0, .int .i64 0, .int .i64 0, .int .i64 0, .int .i64 0, .int .i64 0, .int .i64 0, .int .i64 0, .int .i64 0] 37)).heap.size = w3.heap.size + 1 := by simp
      have Na := Lib.hid ((m.newcel 37 #[.int .i64 0, .int .i64 0, .int .i64 0, .int .i64 0, .int .i64 0, .int .i64 0, .int .i64 0, .int .i64 0, .int .i64 0, .int .i64 0, .int .i64 0, .int .i64 0, .int .i64 0, .int .i64 0, .int .i64 0, .int .i64 0, .int .i64 0, .int .i64 0]).newcel 40 #[.int .i64 0, .int .i64 0, .int .i64 0, .int .i64 0, .int .i64 0])
      rw [es] at Na
      have Nb := Lib.hid (Na.out.rowc w3.heap.size C2.arr)
      have Nc := Lib.hid (Nb.out.rowc (w3.heap.size + 1) E2.arr)
      go_upto_region 4 with (first | (refine wpList_store_row rfl 37 _ _ rfl w3.heap.size C2.arr rfl rfl 37 #[.int .i64 0, .int .i64 0, .int .i64 0, .int .i64 0, .int .i64 0, .int .i64 0, .int .i64 0, .int .i64 0, .int .i64 0, .int .i64 0, .int .i64 0, .int .i64 0, .int .i64 0, .int .i64 0, .int .i64 0, .int .i64 0, .int .i64 0, .int .i64 0] (Na.out.getc w3.heap.size) (by kernel_rfl) rfl (by kernel_rfl) ?_) | (refine wpList_store_row rfl 40 _ _ rfl (w3.heap.size + 1) E2.arr rfl rfl 40 #[.int .i64 0, .int .i64 0, .int .i64 0, .int .i64 0, .int .i64 0] (Nb.out.getc (w3.heap.size + 1)) (by kernel_rfl) rfl (by kernel_rfl) ?_))
      obtain ⟨W4, hW⟩ : ∃ W4, (((w3.alloc (.cells #[.int .i64 0, .int .i64 0, .int .i64 0, .int .i64 0, .int .i64 0, .int .i64 0, .int .i64 0, .int .i64 0, .int .i64 0, .int .i64 0, .int .i64 0, .int .i64 0, .int .i64 0, .int .i64 0, .int .i64 0, .int .i64 0, .int .i64 0, .int .i64 0] 37)).alloc (.cells #[.int .i64 0, .int .i64 0, .int .i64 0, .int .i64 0, .int .i64 0] 40)).setRow w3.heap.size C2.arr).setRow (w3.heap.size + 1) E2.arr = W4 := ⟨_, rfl⟩
      have M4 := Nc
      rw [hW] at M4 ⊢
      clear hW es Na Nb Nc m C1 M2
      generalize w3.heap.size + 1 = e4 at M4 ⊢
      generalize w3.heap.size = x4 at M4 ⊢
      obtain ⟨k2, n2, a2, f2, g2⟩ := E2
      have ek : W4.cell? ⟨e4, 0, none⟩ = some (.int .i64 k2) := M4.out.cellat e4 0 rfl
      try simp only at HRUN2
      by_cases hk0 : k2 = 0
      · subst hk0
        have HR3 : Hid (runG C2 L2 ((k : Int) + 1) (M - k - 1) = R) := Lib.hid (by
          have := HRUN2.out
          rwa [if_neg (by decide), if_pos rfl] at this)
        clear HRUN2
        have M5a := Lib.hid (M4.out.rowc b0 C2.arr)
        have M5 := Lib.hid (M5a.out.norm (Star (Cel b2 40 #[.int .i64 0, .int .i64 0, .int .i64 0, .int .i64 0, .int .i64 0]) (Star (Cel b1 37 #[.int .i64 0, .int .i64 0, .int .i64 0, .int .i64 0, .int .i64 0, .int .i64 0, .int .i64 0, .int .i64 0, .int .i64 0, .int .i64 0, .int .i64 0, .int .i64 0, .int .i64 0, .int .i64 0, .int .i64 0, .int .i64 0, .int .i64 0, .int .i64 0]) (Star (Cel b0 37 C2.arr) (Star (Rf c L2) Y)))))
        clear M5a
        go_wp2_with (first | (refine wpList_load_rowW rfl 37 _ rfl x4 rfl C2.arr _ (M4.out.getc x4) Try.underlying37 rfl (by kernel_rfl) ?_) | (refine wpList_store_row rfl 37 _ _ rfl b0 C2.arr rfl rfl 37 cx.arr (M4.out.getc b0) (by kernel_rfl) rfl (by kernel_rfl) ?_))
        go_roundw
        case rel => exact ⟨k + 1, C2, L2, Lib.hid ⟨hkM, by rfl, M5.out, HOK2.out, by rw [← HR3.out, Nat.sub_sub]; rfl⟩⟩
        case measure =>
          have hi : intOf (Value.int .i64 ((k : Int) + 1)) = (k : Int) + 1 := rfl
          have hj : intOf (Value.int .i64 (k : Int)) = (k : Int) := rfl
          omega
      · have hb0 : (k2 == 0) = false := beq_eq_false_iff_ne.2 hk0
        by_cases hk1 : k2 = 1
        · subst hk1
          have HE : Hid (R = ((C2, ⟨1, n2, a2, f2, g2⟩, (k : Int), L2) : Ctx × Evt × Int × List Rg)) := Lib.hid (by have := HRUN2.out; rw [if_pos (by decide)] at this; exact this.symm)
          clear HRUN2
          go_wp2_with fail
          have N0 := Lib.hid (M4.out.stay below_drw)
          have HS0 : (fun X => Blk X x4 37 C2.arr ∧ Blk X e4 40 (⟨1, n2, a2, f2, g2⟩ : Evt).arr) W4.drew := ⟨N0.out.getc x4, N0.out.getc e4⟩
          refine wp_region_noPanic ?_
          refine wp_region_held_drew (S := fun X => Blk X x4 37 C2.arr ∧ Blk X e4 40 (⟨1, n2, a2, f2, g2⟩ : Evt).arr) (by kernel_rfl) HS0 ?_
          clear HS0
          intro hS
          refine wpAnyH_take (i := 0) rfl (by kernel_rfl) (by kernel_rfl) (by kernel_rfl) (fun _ _ _ h => h) (yields_load_row rfl 37 _ rfl x4 (by kernel_rfl) 37 C2.arr _ (fun w h => h.1) Try.underlying37 rfl (by kernel_rfl)) hS ?_
          refine wpAnyH_take (i := 1) rfl (by kernel_rfl) (by kernel_rfl) (by kernel_rfl) (fun _ _ _ h => h) (yields_load_row rfl 40 _ rfl e4 (by kernel_rfl) 40 (⟨1, n2, a2, f2, g2⟩ : Evt).arr _ (fun w h => h.2) Try.underlying40 rfl (by kernel_rfl)) hS ?_
          refine wpAnyH_take (i := 2) (v := .int .i64 k) rfl (by kernel_rfl) (by kernel_rfl) (by kernel_rfl) (fun _ _ _ h => h) (yields_pure rfl (fun w => by kernel_rfl)) hS ?_
          refine wpAnyH_all (rs := [3]) (by kernel_rfl) (by simp) ?_
          intro i hi
          obtain rfl : i = 3 := by simpa using hi
          have N0s1 := Lib.hid (N0.out.rowc b1 C2.arr)
          refine wpOp_store_row rfl rfl 37 _ _ rfl b1 C2.arr (by kernel_rfl) (by kernel_rfl) 37 #[.int .i64 0, .int .i64 0, .int .i64 0, .int .i64 0, .int .i64 0, .int .i64 0, .int .i64 0, .int .i64 0, .int .i64 0, .int .i64 0, .int .i64 0, .int .i64 0, .int .i64 0, .int .i64 0, .int .i64 0, .int .i64 0, .int .i64 0, .int .i64 0] (N0.out.getc b1) (by kernel_rfl) rfl (by kernel_rfl) ?_
          have hS1 : (fun X => Blk X x4 37 C2.arr ∧ Blk X e4 40 (⟨1, n2, a2, f2, g2⟩ : Evt).arr) _ := ⟨N0s1.out.getc x4, N0s1.out.getc e4⟩
          refine ⟨hS1, ?_⟩
          refine wpAnyH_all (rs := [4]) (by kernel_rfl) (by simp) ?_
          intro i hi
          obtain rfl : i = 4 := by simpa using hi
          have N0s2 := Lib.hid (N0s1.out.rowc b2 (⟨1, n2, a2, f2, g2⟩ : Evt).arr)
          refine wpOp_store_row rfl rfl 40 _ _ rfl b2 (⟨1, n2, a2, f2, g2⟩ : Evt).arr (by kernel_rfl) (by kernel_rfl) 40 #[.int .i64 0, .int .i64 0, .int .i64 0, .int .i64 0, .int .i64 0] (N0s1.out.getc b2) (by kernel_rfl) rfl (by kernel_rfl) ?_
          have hS2 : (fun X => Blk X x4 37 C2.arr ∧ Blk X e4 40 (⟨1, n2, a2, f2, g2⟩ : Evt).arr) _ := ⟨N0s2.out.getc x4, N0s2.out.getc e4⟩
          refine ⟨hS2, ?_⟩
          refine wpAnyH_take (i := 5) (v := .int .i64 k) rfl (by kernel_rfl) (by kernel_rfl) (by kernel_rfl) (fun _ _ _ h => h) (yields_pure rfl (fun w => by kernel_rfl)) hS2 ?_
          refine wpAnyH_done (by kernel_rfl) ?_ _
          refine NoPanic.normal ?_
          go_wp2
          try simp only [Exit.inBlock, Exit.then]
          refine bodyPost_ret (results_cell3_row (p := 6) (u := 7) (q := 8) (ty := 37) (uy := 40) rfl _ _ b1 b2 37 40 C2.arr (⟨1, n2, a2, f2, g2⟩ : Evt).arr _ _ (by kernel_rfl) (N0s2.out.getc b1) Try.underlying37 rfl (by kernel_rfl) (by kernel_rfl) (N0s2.out.getc b2) Try.underlying40 rfl (by kernel_rfl) (.int .i64 k) (by kernel_rfl)) rfl ?_
          exact ⟨by rw [HE.out], by rw [HE.out]; exact N0s2.out.back (Rf c L2) Y⟩
        · have hb1 : (k2 == 1) = false := beq_eq_false_iff_ne.2 hk1
          by_cases hk5 : k2 = 5
          · subst hk5
            have HE : Hid (R = ((C2, ⟨5, n2, a2, f2, g2⟩, (k : Int), L2) : Ctx × Evt × Int × List Rg)) := Lib.hid (by have := HRUN2.out; rw [if_pos (by decide)] at this; exact this.symm)
            clear HRUN2
            go_wp2_with fail
            have N0 := Lib.hid (M4.out.stay below_drw)
            have HS0 : (fun X => Blk X x4 37 C2.arr ∧ Blk X e4 40 (⟨5, n2, a2, f2, g2⟩ : Evt).arr) W4.drew := ⟨N0.out.getc x4, N0.out.getc e4⟩
            refine wp_region_noPanic ?_
            refine wp_region_held_drew (S := fun X => Blk X x4 37 C2.arr ∧ Blk X e4 40 (⟨5, n2, a2, f2, g2⟩ : Evt).arr) (by kernel_rfl) HS0 ?_
            clear HS0
            intro hS
            refine wpAnyH_take (i := 0) rfl (by kernel_rfl) (by kernel_rfl) (by kernel_rfl) (fun _ _ _ h => h) (yields_load_row rfl 37 _ rfl x4 (by kernel_rfl) 37 C2.arr _ (fun w h => h.1) Try.underlying37 rfl (by kernel_rfl)) hS ?_
            refine wpAnyH_take (i := 1) rfl (by kernel_rfl) (by kernel_rfl) (by kernel_rfl) (fun _ _ _ h => h) (yields_load_row rfl 40 _ rfl e4 (by kernel_rfl) 40 (⟨5, n2, a2, f2, g2⟩ : Evt).arr _ (fun w h => h.2) Try.underlying40 rfl (by kernel_rfl)) hS ?_
            refine wpAnyH_take (i := 2) (v := .int .i64 k) rfl (by kernel_rfl) (by kernel_rfl) (by kernel_rfl) (fun _ _ _ h => h) (yields_pure rfl (fun w => by kernel_rfl)) hS ?_
            refine wpAnyH_all (rs := [3]) (by kernel_rfl) (by simp) ?_
            intro i hi
            obtain rfl : i = 3 := by simpa using hi
            have N0s1 := Lib.hid (N0.out.rowc b1 C2.arr)
            refine wpOp_store_row rfl rfl 37 _ _ rfl b1 C2.arr (by kernel_rfl) (by kernel_rfl) 37 #[.int .i64 0, .int .i64 0, .int .i64 0, .int .i64 0, .int .i64 0, .int .i64 0, .int .i64 0, .int .i64 0, .int .i64 0, .int .i64 0, .int .i64 0, .int .i64 0, .int .i64 0, .int .i64 0, .int .i64 0, .int .i64 0, .int .i64 0, .int .i64 0] (N0.out.getc b1) (by kernel_rfl) rfl (by kernel_rfl) ?_
            have hS1 : (fun X => Blk X x4 37 C2.arr ∧ Blk X e4 40 (⟨5, n2, a2, f2, g2⟩ : Evt).arr) _ := ⟨N0s1.out.getc x4, N0s1.out.getc e4⟩
            refine ⟨hS1, ?_⟩
            refine wpAnyH_all (rs := [4]) (by kernel_rfl) (by simp) ?_
            intro i hi
            obtain rfl : i = 4 := by simpa using hi
            have N0s2 := Lib.hid (N0s1.out.rowc b2 (⟨5, n2, a2, f2, g2⟩ : Evt).arr)
            refine wpOp_store_row rfl rfl 40 _ _ rfl b2 (⟨5, n2, a2, f2, g2⟩ : Evt).arr (by kernel_rfl) (by kernel_rfl) 40 #[.int .i64 0, .int .i64 0, .int .i64 0, .int .i64 0, .int .i64 0] (N0s1.out.getc b2) (by kernel_rfl) rfl (by kernel_rfl) ?_
            have hS2 : (fun X => Blk X x4 37 C2.arr ∧ Blk X e4 40 (⟨5, n2, a2, f2, g2⟩ : Evt).arr) _ := ⟨N0s2.out.getc x4, N0s2.out.getc e4⟩
            refine ⟨hS2, ?_⟩
            refine wpAnyH_take (i := 5) (v := .int .i64 k) rfl (by kernel_rfl) (by kernel_rfl) (by kernel_rfl) (fun _ _ _ h => h) (yields_pure rfl (fun w => by kernel_rfl)) hS2 ?_
            refine wpAnyH_done (by kernel_rfl) ?_ _
            refine NoPanic.normal ?_
            go_wp2
            try simp only [Exit.inBlock, Exit.then]
            refine bodyPost_ret (results_cell3_row (p := 6) (u := 7) (q := 8) (ty := 37) (uy := 40) rfl _ _ b1 b2 37 40 C2.arr (⟨5, n2, a2, f2, g2⟩ : Evt).arr _ _ (by kernel_rfl) (N0s2.out.getc b1) Try.underlying37 rfl (by kernel_rfl) (by kernel_rfl) (N0s2.out.getc b2) Try.underlying40 rfl (by kernel_rfl) (.int .i64 k) (by kernel_rfl)) rfl ?_
            exact ⟨by rw [HE.out], by rw [HE.out]; exact N0s2.out.back (Rf c L2) Y⟩
          · have hb5 : (k2 == 5) = false := beq_eq_false_iff_ne.2 hk5
            have hwk : Hid (IntKind.i64.wrap ((k : Int) + 1) = (k : Int) + 1) := Lib.hid (by rw [show IntKind.i64.wrap ((k : Int) + 1) = wrap64 ((k : Int) + 1) by first | exact IntWalk.i64_left _ | exact i64_left _ | rfl]; unfold wrap64; omega)
            have HE : Hid (R = ((C2, ⟨k2, n2, a2, f2, g2⟩, (k : Int) + 1, L2) : Ctx × Evt × Int × List Rg)) := Lib.hid (by have := HRUN2.out; rw [if_neg (by rintro (h | h); exact hk1 h; exact hk5 h), if_neg hk0] at this; exact this.symm)
            clear HRUN2
            go_wp2_with fail
            have N0 := Lib.hid (M4.out.stay below_drw)
            have HS0 : (fun X => Blk X x4 37 C2.arr ∧ Blk X e4 40 (⟨k2, n2, a2, f2, g2⟩ : Evt).arr) W4.drew := ⟨N0.out.getc x4, N0.out.getc e4⟩
            refine wp_region_noPanic ?_
            refine wp_region_held_drew (S := fun X => Blk X x4 37 C2.arr ∧ Blk X e4 40 (⟨k2, n2, a2, f2, g2⟩ : Evt).arr) (by kernel_rfl) HS0 ?_
            clear HS0
            intro hS
            refine wpAnyH_take (i := 0) rfl (by kernel_rfl) (by kernel_rfl) (by kernel_rfl) (fun _ _ _ h => h) (yields_load_row rfl 37 _ rfl x4 (by kernel_rfl) 37 C2.arr _ (fun w h => h.1) Try.underlying37 rfl (by kernel_rfl)) hS ?_
            refine wpAnyH_take (i := 1) rfl (by kernel_rfl) (by kernel_rfl) (by kernel_rfl) (fun _ _ _ h => h) (yields_load_row rfl 40 _ rfl e4 (by kernel_rfl) 40 (⟨k2, n2, a2, f2, g2⟩ : Evt).arr _ (fun w h => h.2) Try.underlying40 rfl (by kernel_rfl)) hS ?_
            refine wpAnyH_take (i := 2) (v := .int .i64 k) rfl (by kernel_rfl) (by kernel_rfl) (by kernel_rfl) (fun _ _ _ h => h) (yields_pure rfl (fun w => by kernel_rfl)) hS ?_
            refine wpAnyH_take (i := 3) (v := .int .i64 ((k : Int) + 1)) rfl (by kernel_rfl) (by kernel_rfl) (by kernel_rfl) (fun _ _ _ h => h) (yields_pure rfl (fun w => by rw [← hwk.out]; kernel_rfl)) hS ?_
            refine wpAnyH_all (rs := [4]) (by kernel_rfl) (by simp) ?_
            intro i hi
            obtain rfl : i = 4 := by simpa using hi
            have N0s1 := Lib.hid (N0.out.rowc b1 C2.arr)
            refine wpOp_store_row rfl rfl 37 _ _ rfl b1 C2.arr (by kernel_rfl) (by kernel_rfl) 37 #[.int .i64 0, .int .i64 0, .int .i64 0, .int .i64 0, .int .i64 0, .int .i64 0, .int .i64 0, .int .i64 0, .int .i64 0, .int .i64 0, .int .i64 0, .int .i64 0, .int .i64 0, .int .i64 0, .int .i64 0, .int .i64 0, .int .i64 0, .int .i64 0] (N0.out.getc b1) (by kernel_rfl) rfl (by kernel_rfl) ?_
            have hS1 : (fun X => Blk X x4 37 C2.arr ∧ Blk X e4 40 (⟨k2, n2, a2, f2, g2⟩ : Evt).arr) _ := ⟨N0s1.out.getc x4, N0s1.out.getc e4⟩
            refine ⟨hS1, ?_⟩
            refine wpAnyH_all (rs := [5]) (by kernel_rfl) (by simp) ?_
            intro i hi
            obtain rfl : i = 5 := by simpa using hi
            have N0s2 := Lib.hid (N0s1.out.rowc b2 (⟨k2, n2, a2, f2, g2⟩ : Evt).arr)
            refine wpOp_store_row rfl rfl 40 _ _ rfl b2 (⟨k2, n2, a2, f2, g2⟩ : Evt).arr (by kernel_rfl) (by kernel_rfl) 40 #[.int .i64 0, .int .i64 0, .int .i64 0, .int .i64 0, .int .i64 0] (N0s1.out.getc b2) (by kernel_rfl) rfl (by kernel_rfl) ?_
            have hS2 : (fun X => Blk X x4 37 C2.arr ∧ Blk X e4 40 (⟨k2, n2, a2, f2, g2⟩ : Evt).arr) _ := ⟨N0s2.out.getc x4, N0s2.out.getc e4⟩
            refine ⟨hS2, ?_⟩
            refine wpAnyH_take (i := 6) (v := .int .i64 ((k : Int) + 1)) rfl (by kernel_rfl) (by kernel_rfl) (by kernel_rfl) (fun _ _ _ h => h) (yields_pure rfl (fun w => by kernel_rfl)) hS2 ?_
            refine wpAnyH_done (by kernel_rfl) ?_ _
            refine NoPanic.normal ?_
            go_wp2
            try simp only [Exit.inBlock, Exit.then]
            refine bodyPost_ret (results_cell3_row (p := 6) (u := 7) (q := 8) (ty := 37) (uy := 40) rfl _ _ b1 b2 37 40 C2.arr (⟨k2, n2, a2, f2, g2⟩ : Evt).arr _ _ (by kernel_rfl) (N0s2.out.getc b1) Try.underlying37 rfl (by kernel_rfl) (by kernel_rfl) (N0s2.out.getc b2) Try.underlying40 rfl (by kernel_rfl) (.int .i64 ((k : Int) + 1)) (by kernel_rfl)) rfl ?_
            exact ⟨by rw [HE.out], by rw [HE.out]; exact N0s2.out.back (Rf c L2) Y⟩
    · have hge : ¬ (k : Int) < most := by omega
      have hpc : wr.cell? ⟨b0, 0, none⟩ = some (.int .i64 cx.pc) := M2.out.cellat b0 0 rfl
      have HE : Hid (R = ((cx, ⟨if cx.pc = 0 then 1 else 6, 0, 0, 0, 0⟩, (k : Int), L) : Ctx × Evt × Int × List Rg)) := Lib.hid (by rw [← HRUN.out, show M - k = 0 by omega]; rfl)
      clear HRUN
      by_cases hp0 : cx.pc = 0
      · have HP := Lib.hid hp0
        have hz : (cx.pc == 0) = true := beq_iff_eq.2 hp0
        clear hp0
        have P2 := Lib.hid (M2.out.rowc b1 cx.arr)
        have P3 := Lib.hid (P2.out.rowc b2 (⟨1, 0, 0, 0, 0⟩ : Evt).arr)
        go_wp2_with (first | (refine wpList_load_rowW rfl 37 _ rfl b0 rfl cx.arr _ (M2.out.getc b0) Try.underlying37 rfl (by kernel_rfl) ?_) | (refine wpList_store_row rfl 37 _ _ rfl b1 cx.arr rfl rfl 37 #[.int .i64 0, .int .i64 0, .int .i64 0, .int .i64 0, .int .i64 0, .int .i64 0, .int .i64 0, .int .i64 0, .int .i64 0, .int .i64 0, .int .i64 0, .int .i64 0, .int .i64 0, .int .i64 0, .int .i64 0, .int .i64 0, .int .i64 0, .int .i64 0] (M2.out.getc b1) (by kernel_rfl) rfl (by kernel_rfl) ?_) | (refine wpList_store_row rfl 40 _ _ rfl b2 (⟨1, 0, 0, 0, 0⟩ : Evt).arr rfl rfl 40 #[.int .i64 0, .int .i64 0, .int .i64 0, .int .i64 0, .int .i64 0] (P2.out.getc b2) (by kernel_rfl) rfl (by kernel_rfl) ?_))
        try simp only [Exit.inBlock, Exit.then]
        refine bodyPost_ret (results_cell3_row (p := 6) (u := 7) (q := 8) (ty := 37) (uy := 40) rfl _ _ b1 b2 37 40 cx.arr (⟨1, 0, 0, 0, 0⟩ : Evt).arr _ _ (by kernel_rfl) (P3.out.getc b1) Try.underlying37 rfl (by kernel_rfl) (by kernel_rfl) (P3.out.getc b2) Try.underlying40 rfl (by kernel_rfl) (.int .i64 k) (by kernel_rfl)) rfl ?_
        exact ⟨by rw [HE.out]; simp only [if_pos HP.out], by rw [HE.out]; exact P3.out.back (Rf c L) Y⟩
      · have HP := Lib.hid hp0
        have hz : (cx.pc == 0) = false := beq_eq_false_iff_ne.2 hp0
        clear hp0
        have P2 := Lib.hid (M2.out.rowc b1 cx.arr)
        have P3 := Lib.hid (P2.out.rowc b2 (⟨6, 0, 0, 0, 0⟩ : Evt).arr)
        go_wp2_with (first | (refine wpList_load_rowW rfl 37 _ rfl b0 rfl cx.arr _ (M2.out.getc b0) Try.underlying37 rfl (by kernel_rfl) ?_) | (refine wpList_store_row rfl 37 _ _ rfl b1 cx.arr rfl rfl 37 #[.int .i64 0, .int .i64 0, .int .i64 0, .int .i64 0, .int .i64 0, .int .i64 0, .int .i64 0, .int .i64 0, .int .i64 0, .int .i64 0, .int .i64 0, .int .i64 0, .int .i64 0, .int .i64 0, .int .i64 0, .int .i64 0, .int .i64 0, .int .i64 0] (M2.out.getc b1) (by kernel_rfl) rfl (by kernel_rfl) ?_) | (refine wpList_store_row rfl 40 _ _ rfl b2 (⟨6, 0, 0, 0, 0⟩ : Evt).arr rfl rfl 40 #[.int .i64 0, .int .i64 0, .int .i64 0, .int .i64 0, .int .i64 0] (P2.out.getc b2) (by kernel_rfl) rfl (by kernel_rfl) ?_))
        try simp only [Exit.inBlock, Exit.then]
        refine bodyPost_ret (results_cell3_row (p := 6) (u := 7) (q := 8) (ty := 37) (uy := 40) rfl _ _ b1 b2 37 40 cx.arr (⟨6, 0, 0, 0, 0⟩ : Evt).arr _ _ (by kernel_rfl) (P3.out.getc b1) Try.underlying37 rfl (by kernel_rfl) (by kernel_rfl) (P3.out.getc b2) Try.underlying40 rfl (by kernel_rfl) (.int .i64 k) (by kernel_rfl)) rfl ?_
        exact ⟨by rw [HE.out]; simp only [if_neg HP.out], by rw [HE.out]; exact P3.out.back (Rf c L) Y⟩
end
end Go.Proofs.Ytkpaeogjefjbfaa
