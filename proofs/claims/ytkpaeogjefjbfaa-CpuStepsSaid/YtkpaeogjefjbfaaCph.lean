/-
  Layer 6: what any instruction does: the program's act.
  Conditions: none. (My own text.)
-/
import Derived.Test.YtkpaeogjefjbfaaCpi
import Derived.Test.YtkpaeogjefjbfaaCpe
import Derived.Test.YtkpaeogjefjbfaaCpj
namespace Go.Proofs.Ytkpaeogjefjbfaa
open Go.RowKit Spm
set_option linter.unusedVariables false
set_option linter.unusedSimpArgs false

section
variable {B : Nat} {w wr w' : World} {g s : Nat} {cx : Ctx} {L : List Rg} {Y : Res}
set_option maxHeartbeats 4000000 in
theorem act_any [hY : Fr Y] (h : Has B w wr (Star (Mc g cx s ev0) (Star (Sp s L) Y))) (h15 : cx.r 15 ≤ 9223372036854775807) (i : Ins) (hi : mayS i = true) (nx : Int) :
    Calls Try.prog 33 #[.pointer (some ⟨g, 0, none⟩), i.val, .int .i64 nx] wr (ActE B w g s (actS cx L i nx) Y) := by
  obtain ⟨⟨o1, o2⟩, ⟨a1, a2⟩, ⟨b1, b2⟩, ⟨c1, c2⟩, _, _⟩ := may_rng hi
  clear hi
  obtain ⟨op, a, b, c, n⟩ := i
  simp only at o1 o2 a1 a2 b1 b2 c1 c2
  obtain ⟨a, rfl⟩ : ∃ k : Nat, a = k := ⟨a.toNat, by omega⟩
  obtain ⟨b, rfl⟩ : ∃ k : Nat, b = k := ⟨b.toNat, by omega⟩
  obtain ⟨c, rfl⟩ : ∃ k : Nat, c = k := ⟨c.toNat, by omega⟩
  have ha : a < 16 := by omega
  have hb : b < 16 := by omega
  have hc : c < 16 := by omega
  unfold Ins.val
  simp only
  by_cases p0 : op = 0
  · subst p0
    exact (act_halt h ha hb hc n nx).mono fun x w' hx => hx
  by_cases p1 : op = 1
  · subst p1
    exact (act_movi h ha hb hc n nx).mono fun x w' hx => hx
  by_cases p2 : op = 2
  · subst p2
    exact (act_mov h ha hb hc n nx).mono fun x w' hx => hx
  by_cases p9 : op = 9
  · subst p9
    exact (act_ld h ha hb hc n nx).mono fun x w' hx => hx
  by_cases p10 : op = 10
  · subst p10
    exact (act_st h ha hb hc n nx).mono fun x w' hx => hx
  by_cases p11 : op = 11
  · subst p11
    exact (act_ldp h ha hb hc n nx).mono fun x w' hx => hx
  by_cases p12 : op = 12
  · subst p12
    exact (act_lea h ha hb hc n nx).mono fun x w' hx => hx
  by_cases p13 : op = 13
  · subst p13
    exact (act_jmp h ha hb hc n nx).mono fun x w' hx => hx
  by_cases p15 : op = 15
  · subst p15
    exact (act_call h ha hb hc n nx).mono fun x w' hx => hx
  by_cases p16 : op = 16
  · subst p16
    exact (act_callr h ha hb hc n nx).mono fun x w' hx => hx
  by_cases p17 : op = 17
  · subst p17
    exact (act_jmpr h ha hb hc n nx).mono fun x w' hx => hx
  by_cases p18 : op = 18
  · subst p18
    exact (act_ret h ha hb hc n nx h15).mono fun x w' hx => hx
  by_cases p19 : op = 19
  · subst p19
    exact (act_out h ha hb hc n nx).mono fun x w' hx => hx
  by_cases p20 : op = 20
  · subst p20
    exact (act_tp h ha hb hc n nx).mono fun x w' hx => hx
  by_cases p21 : op = 21
  · subst p21
    exact (act_tls h ha hb hc n nx).mono fun x w' hx => hx
  by_cases p22 : op = 22
  · subst p22
    exact (act_bind h ha hb hc n nx).mono fun x w' hx => hx
  by_cases p14 : op = 14
  · subst p14
    by_cases hz : cx.r a = 0
    · have e : actS cx L ⟨14, a, b, c, n⟩ nx = ({ cx with pc := wrap64 (nx + n) }, ev0, L) := by
        show (({ cx with pc := if cx.r a = 0 then wrap64 (nx + n) else nx } : Ctx), ev0, L) = _
        rw [if_pos hz]
      rw [e]
      exact (act_jz0 h ha hb hc n nx hz).mono fun x w' hx => hx
    · have e : actS cx L ⟨14, a, b, c, n⟩ nx = ({ cx with pc := nx }, ev0, L) := by
        show (({ cx with pc := if cx.r a = 0 then wrap64 (nx + n) else nx } : Ctx), ev0, L) = _
        rw [if_neg hz]
      rw [e]
      exact (act_jz1 h ha hb hc n nx hz).mono fun x w' hx => hx
  by_cases p3 : op = 3
  · subst p3
    exact (act_kadd h ha hb hc n nx).mono fun x w' hx => hx
  by_cases p4 : op = 4
  · subst p4
    exact (act_ksub h ha hb hc n nx).mono fun x w' hx => hx
  by_cases p5 : op = 5
  · subst p5
    exact (act_kmul h ha hb hc n nx).mono fun x w' hx => hx
  by_cases p7 : op = 7
  · subst p7
    by_cases hz : cx.r b < cx.r c
    · have e : actS cx L ⟨7, a, b, c, n⟩ nx = (putI cx nx a 1, ev0, L) := by
        show (putI cx nx a (if cx.r b < cx.r c then 1 else 0), ev0, L) = _
        rw [if_pos hz]
      rw [e]
      exact (act_kless1 h ha hb hc n nx hz).mono fun x w' hx => hx
    · have e : actS cx L ⟨7, a, b, c, n⟩ nx = (putI cx nx a 0, ev0, L) := by
        show (putI cx nx a (if cx.r b < cx.r c then 1 else 0), ev0, L) = _
        rw [if_neg hz]
      rw [e]
      exact (act_kless0 h ha hb hc n nx hz).mono fun x w' hx => hx
  by_cases p8 : op = 8
  · subst p8
    by_cases hz : cx.r b = cx.r c
    · have e : actS cx L ⟨8, a, b, c, n⟩ nx = (putI cx nx a 1, ev0, L) := by
        show (putI cx nx a (if cx.r b = cx.r c then 1 else 0), ev0, L) = _
        rw [if_pos hz]
      rw [e]
      exact (act_ksame1 h ha hb hc n nx hz).mono fun x w' hx => hx
    · have e : actS cx L ⟨8, a, b, c, n⟩ nx = (putI cx nx a 0, ev0, L) := by
        show (putI cx nx a (if cx.r b = cx.r c then 1 else 0), ev0, L) = _
        rw [if_neg hz]
      rw [e]
      exact (act_ksame0 h ha hb hc n nx hz).mono fun x w' hx => hx
  obtain rfl : op = 6 := by omega
  by_cases hz : cx.r c = 0
  · have e : actS cx L ⟨6, a, b, c, n⟩ nx = ({ cx with pc := nx }, trapV 1, L) := by
      have e2 : rkS 6 (cx.r b) (cx.r c) = (0, 1) := by
        show (if cx.r c = 0 then ((0 : Int), (1 : Int)) else (wrap64 ((cx.r b).tdiv (cx.r c)), 0)) = _
        rw [if_pos hz]
      show (if (rkS 6 (cx.r b) (cx.r c)).2 = 0 then (putI cx nx a (rkS 6 (cx.r b) (cx.r c)).1, ev0, L) else ({ cx with pc := nx }, trapV (rkS 6 (cx.r b) (cx.r c)).2, L)) = _
      rw [e2]
      rfl
    rw [e]
    exact (act_kdiv0 h ha hb hc n nx hz).mono fun x w' hx => hx
  · have e : actS cx L ⟨6, a, b, c, n⟩ nx = (putI cx nx a (wrap64 ((cx.r b).tdiv (cx.r c))), ev0, L) := by
      have e2 : rkS 6 (cx.r b) (cx.r c) = (wrap64 ((cx.r b).tdiv (cx.r c)), 0) := by
        show (if cx.r c = 0 then ((0 : Int), (1 : Int)) else (wrap64 ((cx.r b).tdiv (cx.r c)), 0)) = _
        rw [if_neg hz]
      show (if (rkS 6 (cx.r b) (cx.r c)).2 = 0 then (putI cx nx a (rkS 6 (cx.r b) (cx.r c)).1, ev0, L) else ({ cx with pc := nx }, trapV (rkS 6 (cx.r b) (cx.r c)).2, L)) = _
      rw [e2]
      rfl
    rw [e]
    exact (act_kdiv1 h ha hb hc n nx hz).mono fun x w' hx => hx
end
end Go.Proofs.Ytkpaeogjefjbfaa
