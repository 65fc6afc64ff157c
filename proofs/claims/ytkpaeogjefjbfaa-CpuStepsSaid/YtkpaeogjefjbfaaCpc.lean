/-
  Layer 6: what an instruction does: the program's jz, load, push.
  Conditions: none. (My own text.)
-/
import Derived.Test.YtkpaeogjefjbfaaCpb
import Derived.StillTailTactics
import Derived.Deep.RegionLaw
import Derived.Deep.RegionWith
import Derived.Deep.RegionHeld3
namespace Go.Proofs.Ytkpaeogjefjbfaa
open Go.RowKit Spm
set_option linter.unusedVariables false
set_option linter.unusedSimpArgs false

section
variable {B : Nat} {w wr w' : World} {g s : Nat} {cx : Ctx} {L : List Rg} {Y : Res}
set_option maxRecDepth 100000 in
set_option maxHeartbeats 2000000 in
theorem act_jz0 [hY : Fr Y] (h : Has B w wr (Star (Mc g cx s ev0) (Star (Sp s L) Y))) {a b c : Nat} (ha : a < 16) (hb : b < 16) (hc : c < 16) (n nx : Int) (hz : cx.r a = 0) :
    Calls Try.prog 33 #[.pointer (some ⟨g, 0, none⟩), .agg #[.int .i64 14, .int .i64 a, .int .i64 b, .int .i64 c, .int .i64 n], .int .i64 nx] wr fun x w' => x = .returned (.tuple #[]) ∧ Has B w w' (Star (Mc g { cx with pc := wrap64 (nx + n) } s ev0) (Star (Sp s L) Y)) := by
  have M0 := Lib.hid (h.newcel 30 #[.int .i64 14, .int .i64 a, .int .i64 b, .int .i64 c, .int .i64 n]).swap
  have f0 : (wr.alloc (.cells #[.int .i64 14, .int .i64 a, .int .i64 b, .int .i64 c, .int .i64 n] 30)).frozen? ⟨g, 0, none⟩ = false := M0.out.mblk.free 0
  have g0 : (wr.alloc (.cells #[.int .i64 14, .int .i64 a, .int .i64 b, .int .i64 c, .int .i64 n] 30)).cell? ⟨g, 0, none⟩ = some (.int .i64 cx.pc) := by rw [M0.out.mblk.cell]; rfl
  have M1 := Lib.hid (M0.out.mpc nx)
  clear h M0
  go_enter Try.func33, Try.ntmps33
  go_upto_region 2 with (fail)
  obtain ⟨W, hW⟩ : ∃ W, (wr.alloc (.cells #[.int .i64 14, .int .i64 a, .int .i64 b, .int .i64 c, .int .i64 n] 30)).setCell ⟨g, 0, none⟩ (.int .i64 nx) = W := ⟨_, rfl⟩
  obtain ⟨q, hq⟩ : ∃ q, wr.heap.size = q := ⟨_, rfl⟩
  rw [hW, hq] at M1
  simp only [hW, hq]
  have i0 : W.cell? ⟨q, 0, none⟩ = some (.int .i64 14) := by rw [M1.out.swap.cel.cell]; rfl
  have i1 : W.cell? ⟨q, 1, none⟩ = some (.int .i64 a) := by rw [M1.out.swap.cel.cell]; rfl
  have i2 : W.cell? ⟨q, 2, none⟩ = some (.int .i64 b) := by rw [M1.out.swap.cel.cell]; rfl
  have i3 : W.cell? ⟨q, 3, none⟩ = some (.int .i64 c) := by rw [M1.out.swap.cel.cell]; rfl
  have i4 : W.cell? ⟨q, 4, none⟩ = some (.int .i64 n) := by rw [M1.out.swap.cel.cell]; rfl
  have ra : W.cell? ⟨g, 2 + a, none⟩ = some (.int .i64 (cx.r a)) := by rw [M1.out.mblk.cell]; exact mc_reg _ _ _ ha
  have rb : W.cell? ⟨g, 2 + b, none⟩ = some (.int .i64 (cx.r b)) := by rw [M1.out.mblk.cell]; exact mc_reg _ _ _ hb
  have rc : W.cell? ⟨g, 2 + c, none⟩ = some (.int .i64 (cx.r c)) := by rw [M1.out.mblk.cell]; exact mc_reg _ _ _ hc
  have rpc : W.cell? ⟨g, 0, none⟩ = some (.int .i64 nx) := by rw [M1.out.mblk.cell]; rfl
  have r15 : W.cell? ⟨g, 17, none⟩ = some (.int .i64 (cx.r 15)) := by rw [M1.out.mblk.cell]; rfl
  have rm : W.cell? ⟨g, 18, none⟩ = some (.pointer (some ⟨s, 0, none⟩)) := by rw [M1.out.mblk.cell]; rfl
  have rp : W.cell? ⟨g, 1, none⟩ = some (.int .i64 cx.tp) := by rw [M1.out.mblk.cell]; rfl
  have fz : Hid (∀ k, W.frozen? ⟨g, k, none⟩ = false) := Lib.hid (fun k => M1.out.mblk.free k)
  have na0 : (0 : Int) ≤ (a : Int) := by omega
  have na1 : (a : Int) < 16 := by omega
  have nb0 : (0 : Int) ≤ (b : Int) := by omega
  have nb1 : (b : Int) < 16 := by omega
  have nc0 : (0 : Int) ≤ (c : Int) := by omega
  have nc1 : (c : Int) < 16 := by omega
  clear f0 g0 hW hq
  have hz' : (cx.r a == 0) = true := beq_iff_eq.2 hz
  go_wp2_with fail
  go_quiet (fail)
  have M2 := Lib.hid (M1.out.stay (below_drewN (Below.refl _ _) nq))
  have rpc2 : (W.drewN nq).cell? ⟨g, 0, none⟩ = some (.int .i64 nx) := rpc
  have fa2 : (W.drewN nq).frozen? ⟨g, 0, none⟩ = false := fz.out 0
  have i42 : (W.drewN nq).cell? ⟨q, 4, none⟩ = some (.int .i64 n) := i4
  have M3 := Lib.hid (M2.out.mpc (wrap64 (nx + n))).swap.right
  go_wp2
  go_end0
  exact ⟨rfl, M3.out⟩

set_option maxRecDepth 100000 in
set_option maxHeartbeats 2000000 in
theorem act_jz1 [hY : Fr Y] (h : Has B w wr (Star (Mc g cx s ev0) (Star (Sp s L) Y))) {a b c : Nat} (ha : a < 16) (hb : b < 16) (hc : c < 16) (n nx : Int) (hz : ¬ cx.r a = 0) :
    Calls Try.prog 33 #[.pointer (some ⟨g, 0, none⟩), .agg #[.int .i64 14, .int .i64 a, .int .i64 b, .int .i64 c, .int .i64 n], .int .i64 nx] wr fun x w' => x = .returned (.tuple #[]) ∧ Has B w w' (Star (Mc g { cx with pc := nx } s ev0) (Star (Sp s L) Y)) := by
  have M0 := Lib.hid (h.newcel 30 #[.int .i64 14, .int .i64 a, .int .i64 b, .int .i64 c, .int .i64 n]).swap
  have f0 : (wr.alloc (.cells #[.int .i64 14, .int .i64 a, .int .i64 b, .int .i64 c, .int .i64 n] 30)).frozen? ⟨g, 0, none⟩ = false := M0.out.mblk.free 0
  have g0 : (wr.alloc (.cells #[.int .i64 14, .int .i64 a, .int .i64 b, .int .i64 c, .int .i64 n] 30)).cell? ⟨g, 0, none⟩ = some (.int .i64 cx.pc) := by rw [M0.out.mblk.cell]; rfl
  have M1 := Lib.hid (M0.out.mpc nx)
  clear h M0
  go_enter Try.func33, Try.ntmps33
  go_upto_region 2 with (fail)
  obtain ⟨W, hW⟩ : ∃ W, (wr.alloc (.cells #[.int .i64 14, .int .i64 a, .int .i64 b, .int .i64 c, .int .i64 n] 30)).setCell ⟨g, 0, none⟩ (.int .i64 nx) = W := ⟨_, rfl⟩
  obtain ⟨q, hq⟩ : ∃ q, wr.heap.size = q := ⟨_, rfl⟩
  rw [hW, hq] at M1
  simp only [hW, hq]
  have i0 : W.cell? ⟨q, 0, none⟩ = some (.int .i64 14) := by rw [M1.out.swap.cel.cell]; rfl
  have i1 : W.cell? ⟨q, 1, none⟩ = some (.int .i64 a) := by rw [M1.out.swap.cel.cell]; rfl
  have i2 : W.cell? ⟨q, 2, none⟩ = some (.int .i64 b) := by rw [M1.out.swap.cel.cell]; rfl
  have i3 : W.cell? ⟨q, 3, none⟩ = some (.int .i64 c) := by rw [M1.out.swap.cel.cell]; rfl
  have i4 : W.cell? ⟨q, 4, none⟩ = some (.int .i64 n) := by rw [M1.out.swap.cel.cell]; rfl
  have ra : W.cell? ⟨g, 2 + a, none⟩ = some (.int .i64 (cx.r a)) := by rw [M1.out.mblk.cell]; exact mc_reg _ _ _ ha
  have rb : W.cell? ⟨g, 2 + b, none⟩ = some (.int .i64 (cx.r b)) := by rw [M1.out.mblk.cell]; exact mc_reg _ _ _ hb
  have rc : W.cell? ⟨g, 2 + c, none⟩ = some (.int .i64 (cx.r c)) := by rw [M1.out.mblk.cell]; exact mc_reg _ _ _ hc
  have rpc : W.cell? ⟨g, 0, none⟩ = some (.int .i64 nx) := by rw [M1.out.mblk.cell]; rfl
  have r15 : W.cell? ⟨g, 17, none⟩ = some (.int .i64 (cx.r 15)) := by rw [M1.out.mblk.cell]; rfl
  have rm : W.cell? ⟨g, 18, none⟩ = some (.pointer (some ⟨s, 0, none⟩)) := by rw [M1.out.mblk.cell]; rfl
  have rp : W.cell? ⟨g, 1, none⟩ = some (.int .i64 cx.tp) := by rw [M1.out.mblk.cell]; rfl
  have fz : Hid (∀ k, W.frozen? ⟨g, k, none⟩ = false) := Lib.hid (fun k => M1.out.mblk.free k)
  have na0 : (0 : Int) ≤ (a : Int) := by omega
  have na1 : (a : Int) < 16 := by omega
  have nb0 : (0 : Int) ≤ (b : Int) := by omega
  have nb1 : (b : Int) < 16 := by omega
  have nc0 : (0 : Int) ≤ (c : Int) := by omega
  have nc1 : (c : Int) < 16 := by omega
  clear f0 g0 hW hq
  have hz' : (cx.r a == 0) = false := beq_eq_false_iff_ne.2 hz
  go_wp2_with fail
  go_quiet (fail)
  have M2 := Lib.hid (M1.out.stay (below_drewN (Below.refl _ _) nq))
  have rpc2 : (W.drewN nq).cell? ⟨g, 0, none⟩ = some (.int .i64 nx) := rpc
  have fa2 : (W.drewN nq).frozen? ⟨g, 0, none⟩ = false := fz.out 0
  have i42 : (W.drewN nq).cell? ⟨q, 4, none⟩ = some (.int .i64 n) := i4
  have M3 := Lib.hid M2.out.swap.right
  go_wp2
  go_end0
  exact ⟨rfl, M3.out⟩


def ldC (cx : Ctx) (a : Nat) (q : Int × Int) : Ctx := if q.2 = 0 then { cx with r := upd cx.r a q.1 } else cx
def ldE (e : Evt) (q : Int × Int) : Evt := if q.2 = 0 then e else trapV q.2
set_option maxRecDepth 100000 in
set_option maxHeartbeats 1000000 in
theorem load_any [hY : Fr Y] {e : Evt} (h : Has B w wr (Star (Mc g cx s e) (Star (Sp s L) Y))) {a : Nat} (ha : a < 16) (x : Int) (hx : x ≤ 9223372036854775807) :
    Calls Try.prog 69 #[.pointer (some ⟨g, 0, none⟩), .int .i64 a, .int .i64 x] wr fun y w' => y = .returned (.tuple #[]) ∧ Has B w w' (Star (Mc g (ldC cx a (wordAt L x 1)) s (ldE e (wordAt L x 1))) (Star (Sp s L) Y)) := by
  have rm : wr.cell? ⟨g, 18, none⟩ = some (.pointer (some ⟨s, 0, none⟩)) := by rw [h.mblk.cell]; rfl
  have C1 := Lib.hid (own_word h.swap x hx)
  have na0 : (0 : Int) ≤ (a : Int) := by omega
  have na1 : (a : Int) < 16 := by omega
  clear h
  generalize wordAt L x 1 = Q at C1 ⊢
  obtain ⟨Q1, Q2⟩ := Q
  simp only at C1
  by_cases hq : Q2 = 0
  · subst hq
    have e1 : ldC cx a (Q1, 0) = { cx with r := upd cx.r a Q1 } := rfl
    have e2 : ldE e (Q1, 0) = e := rfl
    rw [e1, e2]
    go_enter Try.func69, Try.ntmps69
    go_wp2_with fail
    refine (C1.out).mono ?_
    rintro y w1 ⟨rfl, m1⟩
    have C2 := Lib.hid (trap_any m1.swap 0)
    clear m1 C1 e1 e2
    go_wp2_with fail
    refine (C2.out).mono ?_
    rintro y w2 ⟨rfl, m2⟩
    have M2 := Lib.hid (show Has B w w2 (Star (Mc g cx s e) (Star (Sp s L) Y)) by simpa using m2)
    clear m2 C2 rm
    have ra : w2.cell? ⟨g, 2 + a, none⟩ = some (.int .i64 (cx.r a)) := by rw [M2.out.mblk.cell]; exact mc_reg _ _ _ ha
    have fa : w2.frozen? ⟨g, 2 + a, none⟩ = false := M2.out.mblk.free (2 + a)
    have M3 := Lib.hid (M2.out.mset ha Q1)
    go_wp2
    go_end0
    exact ⟨rfl, M3.out⟩
  · have e1 : ldC cx a (Q1, Q2) = cx := by unfold ldC; rw [if_neg hq]
    have e2 : ldE e (Q1, Q2) = trapV Q2 := by unfold ldE; rw [if_neg hq]
    rw [e1, e2]
    have hb : (Q2 != 0) = true := bne_iff_ne.2 hq
    go_enter Try.func69, Try.ntmps69
    go_wp2_with fail
    refine (C1.out).mono ?_
    rintro y w1 ⟨rfl, m1⟩
    have C2 := Lib.hid (trap_any m1.swap Q2)
    clear m1 C1 e1 e2
    go_wp2_with fail
    refine (C2.out).mono ?_
    rintro y w2 ⟨rfl, m2⟩
    rw [if_neg hq] at m2
    have M3 := Lib.hid m2
    rw [hb]
    clear m2 C2 rm hb
    go_wp2
    go_end0
    exact ⟨rfl, M3.out⟩

def sub8 (x : Int) : Int := wrap64 (x - 8)
theorem wrap_hi (x : Int) : wrap64 x ≤ 9223372036854775807 := by unfold wrap64; omega
theorem wrap_lo (x : Int) : -9223372036854775808 ≤ wrap64 x := by unfold wrap64; omega
set_option maxRecDepth 100000 in
set_option maxHeartbeats 1000000 in
theorem push_any [hY : Fr Y] {e : Evt} (h : Has B w wr (Star (Mc g cx s e) (Star (Sp s L) Y))) (n : Int) :
    Calls Try.prog 70 #[.pointer (some ⟨g, 0, none⟩), .int .i64 n] wr fun y w' => y = .returned (.bool (decide ((setS L (wrap64 (cx.r 15 - 8)) (bytesS n) 2).2 = 0))) ∧
      Has B w w' (Star (Mc g (if (setS L (wrap64 (cx.r 15 - 8)) (bytesS n) 2).2 = 0 then { cx with r := upd cx.r 15 (wrap64 (cx.r 15 - 8)) } else cx) s (if (setS L (wrap64 (cx.r 15 - 8)) (bytesS n) 2).2 = 0 then e else trapV (setS L (wrap64 (cx.r 15 - 8)) (bytesS n) 2).2)) (Star (Sp s (setS L (wrap64 (cx.r 15 - 8)) (bytesS n) 2).1) Y)) := by
  have rm : wr.cell? ⟨g, 18, none⟩ = some (.pointer (some ⟨s, 0, none⟩)) := by rw [h.mblk.cell]; rfl
  have r15 : wr.cell? ⟨g, 17, none⟩ = some (.int .i64 (cx.r 15)) := by rw [h.mblk.cell]; rfl
  have C1 := Lib.hid (own_setWord h.swap (wrap64 (cx.r 15 - 8)) (wrap_hi _) n)
  clear h
  generalize setS L (wrap64 (cx.r 15 - 8)) (bytesS n) 2 = Q at C1 ⊢
  obtain ⟨L2, Q2⟩ := Q
  simp only at C1 ⊢
  by_cases hq : Q2 = 0
  · subst hq
    rw [if_pos rfl, if_pos rfl, decide_eq_true rfl]
    go_enter Try.func70, Try.ntmps70
    go_wp2_with fail
    refine (C1.out).mono ?_
    rintro y w1 ⟨rfl, m1⟩
    have C2 := Lib.hid (trap_any m1.swap 0)
    clear m1 C1
    go_wp2_with fail
    refine (C2.out).mono ?_
    rintro y w2 ⟨rfl, m2⟩
    have M2 := Lib.hid (show Has B w w2 (Star (Mc g cx s e) (Star (Sp s L2) Y)) by simpa using m2)
    clear m2 C2 rm r15
    have ra : w2.cell? ⟨g, 17, none⟩ = some (.int .i64 (cx.r 15)) := by rw [M2.out.mblk.cell]; rfl
    have fa : w2.frozen? ⟨g, 17, none⟩ = false := M2.out.mblk.free 17
    have M3 : Hid (Has B w (w2.setCell ⟨g, 17, none⟩ (.int .i64 (wrap64 (cx.r 15 - 8)))) (Star (Mc g { cx with r := upd cx.r 15 (wrap64 (cx.r 15 - 8)) } s e) (Star (Sp s L2) Y))) := Lib.hid (M2.out.mset (a := 15) (by decide) (wrap64 (cx.r 15 - 8)))
    go_wp2
    go_ret
    exact ⟨rfl, M3.out⟩
  · rw [if_neg hq, if_neg hq, decide_eq_false hq]
    have hb : (Q2 != 0) = true := bne_iff_ne.2 hq
    go_enter Try.func70, Try.ntmps70
    go_wp2_with fail
    refine (C1.out).mono ?_
    rintro y w1 ⟨rfl, m1⟩
    have C2 := Lib.hid (trap_any m1.swap Q2)
    clear m1 C1
    go_wp2_with fail
    refine (C2.out).mono ?_
    rintro y w2 ⟨rfl, m2⟩
    rw [if_neg hq] at m2
    have M3 := Lib.hid m2
    rw [hb]
    clear m2 C2 rm hb r15
    go_wp2
    go_ret
    exact ⟨rfl, M3.out⟩
end
end Go.Proofs.Ytkpaeogjefjbfaa
