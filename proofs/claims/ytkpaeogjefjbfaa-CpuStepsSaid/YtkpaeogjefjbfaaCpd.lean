/-
  Layer 6: what an instruction does: the program's act, loads and a call.
  Conditions: none. (My own text.)
-/
import Derived.Test.YtkpaeogjefjbfaaCpc
import Derived.StillTailTactics
import Derived.Deep.RegionLaw
import Derived.Deep.RegionWith
import Derived.Deep.RegionHeld3
namespace Go.Proofs.Ytkpaeogjefjbfaa
open Go.RowKit Spm
set_option linter.unusedVariables false
set_option linter.unusedSimpArgs false

section
variable {B : Nat} {w wr w' : World} {g s : Nat} {cx : Ctx} {L : List Rg} {Y : Res}
set_option maxRecDepth 100000 in
set_option maxHeartbeats 2000000 in
theorem act_ld [hY : Fr Y] (h : Has B w wr (Star (Mc g cx s ev0) (Star (Sp s L) Y))) {a b c : Nat} (ha : a < 16) (hb : b < 16) (hc : c < 16) (n nx : Int) :
    Calls Try.prog 33 #[.pointer (some ⟨g, 0, none⟩), .agg #[.int .i64 9, .int .i64 a, .int .i64 b, .int .i64 c, .int .i64 n], .int .i64 nx] wr fun x w' => x = .returned (.tuple #[]) ∧ Has B w w' (Star (Mc g (ldC { cx with pc := nx } a (wordAt L (wrap64 (cx.r b + n)) 1)) s (ldE ev0 (wordAt L (wrap64 (cx.r b + n)) 1))) (Star (Sp s L) Y)) := by
  have M0 := Lib.hid (h.newcel 30 #[.int .i64 9, .int .i64 a, .int .i64 b, .int .i64 c, .int .i64 n]).swap
  have f0 : (wr.alloc (.cells #[.int .i64 9, .int .i64 a, .int .i64 b, .int .i64 c, .int .i64 n] 30)).frozen? ⟨g, 0, none⟩ = false := M0.out.mblk.free 0
  have g0 : (wr.alloc (.cells #[.int .i64 9, .int .i64 a, .int .i64 b, .int .i64 c, .int .i64 n] 30)).cell? ⟨g, 0, none⟩ = some (.int .i64 cx.pc) := by rw [M0.out.mblk.cell]; rfl
  have M1 := Lib.hid (M0.out.mpc nx)
  clear h M0
  go_enter Try.func33, Try.ntmps33
  go_upto_region 2 with (fail)
  obtain ⟨W, hW⟩ : ∃ W, (wr.alloc (.cells #[.int .i64 9, .int .i64 a, .int .i64 b, .int .i64 c, .int .i64 n] 30)).setCell ⟨g, 0, none⟩ (.int .i64 nx) = W := ⟨_, rfl⟩
  obtain ⟨q, hq⟩ : ∃ q, wr.heap.size = q := ⟨_, rfl⟩
  rw [hW, hq] at M1
  simp only [hW, hq]
  have i0 : W.cell? ⟨q, 0, none⟩ = some (.int .i64 9) := by rw [M1.out.swap.cel.cell]; rfl
  have i1 : W.cell? ⟨q, 1, none⟩ = some (.int .i64 a) := by rw [M1.out.swap.cel.cell]; rfl
  have i2 : W.cell? ⟨q, 2, none⟩ = some (.int .i64 b) := by rw [M1.out.swap.cel.cell]; rfl
  have i3 : W.cell? ⟨q, 3, none⟩ = some (.int .i64 c) := by rw [M1.out.swap.cel.cell]; rfl
  have i4 : W.cell? ⟨q, 4, none⟩ = some (.int .i64 n) := by rw [M1.out.swap.cel.cell]; rfl
  have ra : W.cell? ⟨g, 2 + a, none⟩ = some (.int .i64 (cx.r a)) := by rw [M1.out.mblk.cell]; exact mc_reg _ _ _ ha
  have rb : W.cell? ⟨g, 2 + b, none⟩ = some (.int .i64 (cx.r b)) := by rw [M1.out.mblk.cell]; exact mc_reg _ _ _ hb
  have rc : W.cell? ⟨g, 2 + c, none⟩ = some (.int .i64 (cx.r c)) := by rw [M1.out.mblk.cell]; exact mc_reg _ _ _ hc
  have rpc : W.cell? ⟨g, 0, none⟩ = some (.int .i64 nx) := by rw [M1.out.mblk.cell]; rfl
  have r15 : W.cell? ⟨g, 17, none⟩ = some (.int .i64 (cx.r 15)) := by rw [M1.out.mblk.cell]; rfl
  have rm : W.cell? ⟨g, 18, none⟩ = some (.pointer (some ⟨s, 0, none⟩)) := by rw [M1.out.mblk.cell]; rfl
  have rp : W.cell? ⟨g, 1, none⟩ = some (.int .i64 cx.tp) := by rw [M1.out.mblk.cell]; rfl
  have fz : Hid (∀ k, W.frozen? ⟨g, k, none⟩ = false) := Lib.hid (fun k => M1.out.mblk.free k)
  have na0 : (0 : Int) ≤ (a : Int) := by omega
  have na1 : (a : Int) < 16 := by omega
  have nb0 : (0 : Int) ≤ (b : Int) := by omega
  have nb1 : (b : Int) < 16 := by omega
  have nc0 : (0 : Int) ≤ (c : Int) := by omega
  have nc1 : (c : Int) < 16 := by omega
  clear f0 g0 hW hq
  go_wp2_with fail
  go_still_tail 14, (by kernel_rfl)
  change wpList _ _ _ _ _ W.drew
  have M2 := Lib.hid (M1.out.stay below_drw)
  generalize W.drew = W2 at M2 ⊢
  have C1 := Lib.hid (load_any M2.out.swap.right ha (wrap64 (cx.r b + n)) (wrap_hi _))
  go_wp2_with fail
  refine (C1.out).mono ?_
  rintro y w3 ⟨rfl, m3⟩
  have M3 := Lib.hid m3; clear m3 C1
  go_wp2
  go_end0
  exact ⟨rfl, M3.out⟩

set_option maxRecDepth 100000 in
set_option maxHeartbeats 2000000 in
theorem act_ldp [hY : Fr Y] (h : Has B w wr (Star (Mc g cx s ev0) (Star (Sp s L) Y))) {a b c : Nat} (ha : a < 16) (hb : b < 16) (hc : c < 16) (n nx : Int) :
    Calls Try.prog 33 #[.pointer (some ⟨g, 0, none⟩), .agg #[.int .i64 11, .int .i64 a, .int .i64 b, .int .i64 c, .int .i64 n], .int .i64 nx] wr fun x w' => x = .returned (.tuple #[]) ∧ Has B w w' (Star (Mc g (ldC { cx with pc := nx } a (wordAt L (wrap64 (nx + n)) 1)) s (ldE ev0 (wordAt L (wrap64 (nx + n)) 1))) (Star (Sp s L) Y)) := by
  have M0 := Lib.hid (h.newcel 30 #[.int .i64 11, .int .i64 a, .int .i64 b, .int .i64 c, .int .i64 n]).swap
  have f0 : (wr.alloc (.cells #[.int .i64 11, .int .i64 a, .int .i64 b, .int .i64 c, .int .i64 n] 30)).frozen? ⟨g, 0, none⟩ = false := M0.out.mblk.free 0
  have g0 : (wr.alloc (.cells #[.int .i64 11, .int .i64 a, .int .i64 b, .int .i64 c, .int .i64 n] 30)).cell? ⟨g, 0, none⟩ = some (.int .i64 cx.pc) := by rw [M0.out.mblk.cell]; rfl
  have M1 := Lib.hid (M0.out.mpc nx)
  clear h M0
  go_enter Try.func33, Try.ntmps33
  go_upto_region 2 with (fail)
  obtain ⟨W, hW⟩ : ∃ W, (wr.alloc (.cells #[.int .i64 11, .int .i64 a, .int .i64 b, .int .i64 c, .int .i64 n] 30)).setCell ⟨g, 0, none⟩ (.int .i64 nx) = W := ⟨_, rfl⟩
  obtain ⟨q, hq⟩ : ∃ q, wr.heap.size = q := ⟨_, rfl⟩
  rw [hW, hq] at M1
  simp only [hW, hq]
  have i0 : W.cell? ⟨q, 0, none⟩ = some (.int .i64 11) := by rw [M1.out.swap.cel.cell]; rfl
  have i1 : W.cell? ⟨q, 1, none⟩ = some (.int .i64 a) := by rw [M1.out.swap.cel.cell]; rfl
  have i2 : W.cell? ⟨q, 2, none⟩ = some (.int .i64 b) := by rw [M1.out.swap.cel.cell]; rfl
  have i3 : W.cell? ⟨q, 3, none⟩ = some (.int .i64 c) := by rw [M1.out.swap.cel.cell]; rfl
  have i4 : W.cell? ⟨q, 4, none⟩ = some (.int .i64 n) := by rw [M1.out.swap.cel.cell]; rfl
  have ra : W.cell? ⟨g, 2 + a, none⟩ = some (.int .i64 (cx.r a)) := by rw [M1.out.mblk.cell]; exact mc_reg _ _ _ ha
  have rb : W.cell? ⟨g, 2 + b, none⟩ = some (.int .i64 (cx.r b)) := by rw [M1.out.mblk.cell]; exact mc_reg _ _ _ hb
  have rc : W.cell? ⟨g, 2 + c, none⟩ = some (.int .i64 (cx.r c)) := by rw [M1.out.mblk.cell]; exact mc_reg _ _ _ hc
  have rpc : W.cell? ⟨g, 0, none⟩ = some (.int .i64 nx) := by rw [M1.out.mblk.cell]; rfl
  have r15 : W.cell? ⟨g, 17, none⟩ = some (.int .i64 (cx.r 15)) := by rw [M1.out.mblk.cell]; rfl
  have rm : W.cell? ⟨g, 18, none⟩ = some (.pointer (some ⟨s, 0, none⟩)) := by rw [M1.out.mblk.cell]; rfl
  have rp : W.cell? ⟨g, 1, none⟩ = some (.int .i64 cx.tp) := by rw [M1.out.mblk.cell]; rfl
  have fz : Hid (∀ k, W.frozen? ⟨g, k, none⟩ = false) := Lib.hid (fun k => M1.out.mblk.free k)
  have na0 : (0 : Int) ≤ (a : Int) := by omega
  have na1 : (a : Int) < 16 := by omega
  have nb0 : (0 : Int) ≤ (b : Int) := by omega
  have nb1 : (b : Int) < 16 := by omega
  have nc0 : (0 : Int) ≤ (c : Int) := by omega
  have nc1 : (c : Int) < 16 := by omega
  clear f0 g0 hW hq
  have C1 := Lib.hid (load_any M1.out.swap.right ha (wrap64 (nx + n)) (wrap_hi _))
  go_wp2_with fail
  refine (C1.out).mono ?_
  rintro y w3 ⟨rfl, m3⟩
  have M3 := Lib.hid m3; clear m3 C1
  go_wp2
  go_end0
  exact ⟨rfl, M3.out⟩

def stE (q : Int) : Evt := if q = 0 then ev0 else trapV q
def calC (cx : Ctx) (nx to_ q : Int) : Ctx := if q = 0 then { cx with pc := to_, r := upd cx.r 15 (wrap64 (cx.r 15 - 8)) } else { cx with pc := nx }

set_option maxRecDepth 100000 in
set_option maxHeartbeats 2000000 in
theorem act_call [hY : Fr Y] (h : Has B w wr (Star (Mc g cx s ev0) (Star (Sp s L) Y))) {a b c : Nat} (ha : a < 16) (hb : b < 16) (hc : c < 16) (n nx : Int) :
    Calls Try.prog 33 #[.pointer (some ⟨g, 0, none⟩), .agg #[.int .i64 15, .int .i64 a, .int .i64 b, .int .i64 c, .int .i64 n], .int .i64 nx] wr fun x w' => x = .returned (.tuple #[]) ∧ Has B w w' (Star (Mc g (calC cx nx (wrap64 (nx + n)) (setS L (wrap64 (cx.r 15 - 8)) (bytesS nx) 2).2) s (stE (setS L (wrap64 (cx.r 15 - 8)) (bytesS nx) 2).2)) (Star (Sp s (setS L (wrap64 (cx.r 15 - 8)) (bytesS nx) 2).1) Y)) := by
  have M0 := Lib.hid (h.newcel 30 #[.int .i64 15, .int .i64 a, .int .i64 b, .int .i64 c, .int .i64 n]).swap
  have f0 : (wr.alloc (.cells #[.int .i64 15, .int .i64 a, .int .i64 b, .int .i64 c, .int .i64 n] 30)).frozen? ⟨g, 0, none⟩ = false := M0.out.mblk.free 0
  have g0 : (wr.alloc (.cells #[.int .i64 15, .int .i64 a, .int .i64 b, .int .i64 c, .int .i64 n] 30)).cell? ⟨g, 0, none⟩ = some (.int .i64 cx.pc) := by rw [M0.out.mblk.cell]; rfl
  have M1 := Lib.hid (M0.out.mpc nx)
  clear h M0
  have CS := Lib.hid (fun (w2 : World) (Y2 : Res) (hY2 : Fr Y2) (m : Has B w w2 (Star (Mc g { cx with pc := nx } s ev0) (Star (Sp s L) Y2))) => push_any m nx)
  simp only at CS
  generalize setS L (wrap64 (cx.r 15 - 8)) (bytesS nx) 2 = Q at CS ⊢
  obtain ⟨L2, Q2⟩ := Q
  simp only at CS ⊢
  go_enter Try.func33, Try.ntmps33
  go_upto_region 2 with (fail)
  obtain ⟨W, hW⟩ : ∃ W, (wr.alloc (.cells #[.int .i64 15, .int .i64 a, .int .i64 b, .int .i64 c, .int .i64 n] 30)).setCell ⟨g, 0, none⟩ (.int .i64 nx) = W := ⟨_, rfl⟩
  obtain ⟨q, hq⟩ : ∃ q, wr.heap.size = q := ⟨_, rfl⟩
  rw [hW, hq] at M1
  simp only [hW, hq]
  have i0 : W.cell? ⟨q, 0, none⟩ = some (.int .i64 15) := by rw [M1.out.swap.cel.cell]; rfl
  have i1 : W.cell? ⟨q, 1, none⟩ = some (.int .i64 a) := by rw [M1.out.swap.cel.cell]; rfl
  have i2 : W.cell? ⟨q, 2, none⟩ = some (.int .i64 b) := by rw [M1.out.swap.cel.cell]; rfl
  have i3 : W.cell? ⟨q, 3, none⟩ = some (.int .i64 c) := by rw [M1.out.swap.cel.cell]; rfl
  have i4 : W.cell? ⟨q, 4, none⟩ = some (.int .i64 n) := by rw [M1.out.swap.cel.cell]; rfl
  have ra : W.cell? ⟨g, 2 + a, none⟩ = some (.int .i64 (cx.r a)) := by rw [M1.out.mblk.cell]; exact mc_reg _ _ _ ha
  have rb : W.cell? ⟨g, 2 + b, none⟩ = some (.int .i64 (cx.r b)) := by rw [M1.out.mblk.cell]; exact mc_reg _ _ _ hb
  have rc : W.cell? ⟨g, 2 + c, none⟩ = some (.int .i64 (cx.r c)) := by rw [M1.out.mblk.cell]; exact mc_reg _ _ _ hc
  have rpc : W.cell? ⟨g, 0, none⟩ = some (.int .i64 nx) := by rw [M1.out.mblk.cell]; rfl
  have r15 : W.cell? ⟨g, 17, none⟩ = some (.int .i64 (cx.r 15)) := by rw [M1.out.mblk.cell]; rfl
  have rm : W.cell? ⟨g, 18, none⟩ = some (.pointer (some ⟨s, 0, none⟩)) := by rw [M1.out.mblk.cell]; rfl
  have rp : W.cell? ⟨g, 1, none⟩ = some (.int .i64 cx.tp) := by rw [M1.out.mblk.cell]; rfl
  have fz : Hid (∀ k, W.frozen? ⟨g, k, none⟩ = false) := Lib.hid (fun k => M1.out.mblk.free k)
  have na0 : (0 : Int) ≤ (a : Int) := by omega
  have na1 : (a : Int) < 16 := by omega
  have nb0 : (0 : Int) ≤ (b : Int) := by omega
  have nb1 : (b : Int) < 16 := by omega
  have nc0 : (0 : Int) ≤ (c : Int) := by omega
  have nc1 : (c : Int) < 16 := by omega
  clear f0 g0 hW hq
  have C1 := Lib.hid (CS.out _ _ inferInstance M1.out.r3.swap)
  clear CS
  by_cases hq : Q2 = 0
  · subst hq
    simp only [if_true, decide_true] at C1
    go_wp2_with fail
    refine (C1.out).mono ?_
    rintro y w3 ⟨rfl, m3⟩
    have rpc3 : w3.cell? ⟨g, 0, none⟩ = some (.int .i64 nx) := by rw [m3.mblk.cell]; rfl
    have fp3 : w3.frozen? ⟨g, 0, none⟩ = false := m3.mblk.free 0
    have i43 : w3.cell? ⟨q, 4, none⟩ = some (.int .i64 n) := by rw [m3.r3.cel.cell]; rfl
    have M3 := Lib.hid (m3.mpc (wrap64 (nx + n))).r3.right
    clear m3 C1
    go_wp2
    go_end0
    exact ⟨rfl, M3.out⟩
  · simp only [if_neg hq, decide_eq_false hq] at C1
    have H1 : Hid (calC cx nx (wrap64 (nx + n)) Q2 = { cx with pc := nx }) := Lib.hid (by unfold calC; rw [if_neg hq])
    have H2 : Hid (stE Q2 = trapV Q2) := Lib.hid (by unfold stE; rw [if_neg hq])
    go_wp2_with fail
    refine (C1.out).mono ?_
    rintro y w3 ⟨rfl, m3⟩
    have M3 := Lib.hid m3.r3.right
    clear m3 C1
    go_wp2
    go_end0
    exact ⟨rfl, by rw [H1.out, H2.out]; exact M3.out⟩
end
end Go.Proofs.Ytkpaeogjefjbfaa
