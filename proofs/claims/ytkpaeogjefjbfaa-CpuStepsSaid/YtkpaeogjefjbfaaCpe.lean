/-
  Layer 6: what an instruction does: the program's act, a store.
  Conditions: none. (My own text.)
-/
import Derived.Test.YtkpaeogjefjbfaaCpd
import Derived.StillTailTactics
import Derived.Deep.RegionLaw
import Derived.Deep.RegionWith
import Derived.Deep.RegionHeld3
namespace Go.Proofs.Ytkpaeogjefjbfaa
open Go.RowKit Spm
set_option linter.unusedVariables false
set_option linter.unusedSimpArgs false

section
variable {B : Nat} {w wr w' : World} {g s : Nat} {cx : Ctx} {L : List Rg} {Y : Res}
set_option maxRecDepth 100000 in
set_option maxHeartbeats 2000000 in
theorem act_st [hY : Fr Y] (h : Has B w wr (Star (Mc g cx s ev0) (Star (Sp s L) Y))) {a b c : Nat} (ha : a < 16) (hb : b < 16) (hc : c < 16) (n nx : Int) :
    Calls Try.prog 33 #[.pointer (some ⟨g, 0, none⟩), .agg #[.int .i64 10, .int .i64 a, .int .i64 b, .int .i64 c, .int .i64 n], .int .i64 nx] wr fun x w' => x = .returned (.tuple #[]) ∧ Has B w w' (Star (Mc g { cx with pc := nx } s (stE (setS L (wrap64 (cx.r b + n)) (bytesS (cx.r a)) 2).2)) (Star (Sp s (setS L (wrap64 (cx.r b + n)) (bytesS (cx.r a)) 2).1) Y)) := by
  have M0 := Lib.hid (h.newcel 30 #[.int .i64 10, .int .i64 a, .int .i64 b, .int .i64 c, .int .i64 n]).swap
  have f0 : (wr.alloc (.cells #[.int .i64 10, .int .i64 a, .int .i64 b, .int .i64 c, .int .i64 n] 30)).frozen? ⟨g, 0, none⟩ = false := M0.out.mblk.free 0
  have g0 : (wr.alloc (.cells #[.int .i64 10, .int .i64 a, .int .i64 b, .int .i64 c, .int .i64 n] 30)).cell? ⟨g, 0, none⟩ = some (.int .i64 cx.pc) := by rw [M0.out.mblk.cell]; rfl
  have M1 := Lib.hid (M0.out.mpc nx)
  clear h M0
  have CS := Lib.hid (fun (w2 : World) (Y2 : Res) (hY2 : Fr Y2) (m : Has B w w2 (Star (Sp s L) Y2)) => own_setWord m (wrap64 (cx.r b + n)) (wrap_hi _) (cx.r a))
  generalize setS L (wrap64 (cx.r b + n)) (bytesS (cx.r a)) 2 = Q at CS ⊢
  obtain ⟨L2, Q2⟩ := Q
  simp only at CS ⊢
  go_enter Try.func33, Try.ntmps33
  go_upto_region 2 with (fail)
  obtain ⟨W, hW⟩ : ∃ W, (wr.alloc (.cells #[.int .i64 10, .int .i64 a, .int .i64 b, .int .i64 c, .int .i64 n] 30)).setCell ⟨g, 0, none⟩ (.int .i64 nx) = W := ⟨_, rfl⟩
  obtain ⟨q, hq⟩ : ∃ q, wr.heap.size = q := ⟨_, rfl⟩
  rw [hW, hq] at M1
  simp only [hW, hq]
  have i0 : W.cell? ⟨q, 0, none⟩ = some (.int .i64 10) := by rw [M1.out.swap.cel.cell]; rfl
  have i1 : W.cell? ⟨q, 1, none⟩ = some (.int .i64 a) := by rw [M1.out.swap.cel.cell]; rfl
  have i2 : W.cell? ⟨q, 2, none⟩ = some (.int .i64 b) := by rw [M1.out.swap.cel.cell]; rfl
  have i3 : W.cell? ⟨q, 3, none⟩ = some (.int .i64 c) := by rw [M1.out.swap.cel.cell]; rfl
  have i4 : W.cell? ⟨q, 4, none⟩ = some (.int .i64 n) := by rw [M1.out.swap.cel.cell]; rfl
  have ra : W.cell? ⟨g, 2 + a, none⟩ = some (.int .i64 (cx.r a)) := by rw [M1.out.mblk.cell]; exact mc_reg _ _ _ ha
  have rb : W.cell? ⟨g, 2 + b, none⟩ = some (.int .i64 (cx.r b)) := by rw [M1.out.mblk.cell]; exact mc_reg _ _ _ hb
  have rc : W.cell? ⟨g, 2 + c, none⟩ = some (.int .i64 (cx.r c)) := by rw [M1.out.mblk.cell]; exact mc_reg _ _ _ hc
  have rpc : W.cell? ⟨g, 0, none⟩ = some (.int .i64 nx) := by rw [M1.out.mblk.cell]; rfl
  have r15 : W.cell? ⟨g, 17, none⟩ = some (.int .i64 (cx.r 15)) := by rw [M1.out.mblk.cell]; rfl
  have rm : W.cell? ⟨g, 18, none⟩ = some (.pointer (some ⟨s, 0, none⟩)) := by rw [M1.out.mblk.cell]; rfl
  have rp : W.cell? ⟨g, 1, none⟩ = some (.int .i64 cx.tp) := by rw [M1.out.mblk.cell]; rfl
  have fz : Hid (∀ k, W.frozen? ⟨g, k, none⟩ = false) := Lib.hid (fun k => M1.out.mblk.free k)
  have na0 : (0 : Int) ≤ (a : Int) := by omega
  have na1 : (a : Int) < 16 := by omega
  have nb0 : (0 : Int) ≤ (b : Int) := by omega
  have nb1 : (b : Int) < 16 := by omega
  have nc0 : (0 : Int) ≤ (c : Int) := by omega
  have nc1 : (c : Int) < 16 := by omega
  clear f0 g0 hW hq
  have M2 := Lib.hid (M1.out.stay below_drw).r3
  have C1 := Lib.hid (CS.out _ _ inferInstance M2.out)
  have hwr : IntKind.i64.wrap (cx.r b + n) = wrap64 (cx.r b + n) := by first | exact IntWalk.i64_left _ | exact i64_left _
  have C2 : Hid (∀ w3, Has B w w3 (Star (Sp s L2) (Star (Mc g { cx with pc := nx } s ev0) (Star (Cel q 30 #[.int .i64 10, .int .i64 a, .int .i64 b, .int .i64 c, .int .i64 n]) Y))) → Calls Try.prog 31 #[.pointer (some ⟨g, 0, none⟩), .int .i64 Q2] w3 fun x w' => x = .returned (.bool (Q2 != 0)) ∧ Has B w w' (Star (Mc g { cx with pc := nx } s (stE Q2)) (Star (Sp s L2) (Star (Cel q 30 #[.int .i64 10, .int .i64 a, .int .i64 b, .int .i64 c, .int .i64 n]) Y)))) := Lib.hid (fun w3 m => trap_any m.swap Q2)
  have KP : Hid (∀ (w3 : World) (e : Evt) (L3 : List Rg), Has B w w3 (Star (Mc g { cx with pc := nx } s e) (Star (Sp s L3) (Star (Cel q 30 #[.int .i64 10, .int .i64 a, .int .i64 b, .int .i64 c, .int .i64 n]) Y))) → w3.cell? ⟨q, 1, none⟩ = some (.int .i64 a) ∧ w3.cell? ⟨q, 2, none⟩ = some (.int .i64 b) ∧ w3.cell? ⟨q, 4, none⟩ = some (.int .i64 n) ∧ w3.cell? ⟨g, 2 + a, none⟩ = some (.int .i64 (cx.r a)) ∧ w3.cell? ⟨g, 2 + b, none⟩ = some (.int .i64 (cx.r b)) ∧ w3.cell? ⟨g, 18, none⟩ = some (.pointer (some ⟨s, 0, none⟩))) := Lib.hid (fun w3 e L3 m =>
    ⟨by rw [m.r3.cel.cell]; rfl, by rw [m.r3.cel.cell]; rfl, by rw [m.r3.cel.cell]; rfl, by rw [m.mblk.cell]; exact mc_reg _ _ _ ha, by rw [m.mblk.cell]; exact mc_reg _ _ _ hb, by rw [m.mblk.cell]; rfl⟩)
  clear CS M1
  go_wp2_with fail
  go_region_held3 (fun w' => w'.cell? ⟨q, 1, none⟩ = some (.int .i64 a) ∧ w'.cell? ⟨q, 2, none⟩ = some (.int .i64 b) ∧ w'.cell? ⟨q, 4, none⟩ = some (.int .i64 n) ∧ w'.cell? ⟨g, 2 + a, none⟩ = some (.int .i64 (cx.r a)) ∧ w'.cell? ⟨g, 2 + b, none⟩ = some (.int .i64 (cx.r b)) ∧ w'.cell? ⟨g, 18, none⟩ = some (.pointer (some ⟨s, 0, none⟩)))
    (first | exact ⟨i1, i2, i4, ra, rb, rm⟩ | exact KP.out _ _ _ m3.swap | exact KP.out _ _ _ m4)
    (first
      | (go_at_call 62; refine (C1.out).mono ?_; rintro y w3 ⟨rfl, m3⟩)
      | (go_at_call 31; refine (C2.out _ m3).mono ?_; rintro y w4 ⟨rfl, m4⟩))
  all_goals
    have M3 := Lib.hid m4.r3.right
    clear m4 C2
    go_wp2
    go_end0
    exact ⟨rfl, M3.out⟩
end
end Go.Proofs.Ytkpaeogjefjbfaa
