/-
  Layer 6: what an instruction does: the program's act (first part).
  Conditions: none. (My own text.)
-/
import Derived.Test.YtkpaeogjefjbfaaCpa
import Derived.StillTailTactics
import Derived.Deep.RegionLaw
import Derived.Deep.RegionWith
import Derived.Deep.RegionHeld3
namespace Go.Proofs.Ytkpaeogjefjbfaa
open Go.RowKit Spm
set_option linter.unusedVariables false
set_option linter.unusedSimpArgs false

section
variable {B : Nat} {w wr w' : World} {g s : Nat} {cx : Ctx} {L : List Rg} {Y : Res}
theorem below_drw {B : Nat} {w : World} : Below B w w.drew := ⟨rfl, rfl, rfl, Nat.le_refl _, fun _ _ => rfl⟩

set_option maxRecDepth 100000 in
set_option maxHeartbeats 2000000 in
theorem act_movi [hY : Fr Y] (h : Has B w wr (Star (Mc g cx s ev0) (Star (Sp s L) Y))) {a b c : Nat} (ha : a < 16) (hb : b < 16) (hc : c < 16) (n nx : Int) :
    Calls Try.prog 33 #[.pointer (some ⟨g, 0, none⟩), .agg #[.int .i64 1, .int .i64 a, .int .i64 b, .int .i64 c, .int .i64 n], .int .i64 nx] wr fun x w' => x = .returned (.tuple #[]) ∧ Has B w w' (Star (Mc g { cx with pc := nx, r := upd cx.r a (n) } s ev0) (Star (Sp s L) Y)) := by
  have M0 := Lib.hid (h.newcel 30 #[.int .i64 1, .int .i64 a, .int .i64 b, .int .i64 c, .int .i64 n]).swap
  have f0 : (wr.alloc (.cells #[.int .i64 1, .int .i64 a, .int .i64 b, .int .i64 c, .int .i64 n] 30)).frozen? ⟨g, 0, none⟩ = false := M0.out.mblk.free 0
  have g0 : (wr.alloc (.cells #[.int .i64 1, .int .i64 a, .int .i64 b, .int .i64 c, .int .i64 n] 30)).cell? ⟨g, 0, none⟩ = some (.int .i64 cx.pc) := by rw [M0.out.mblk.cell]; rfl
  have M1 := Lib.hid (M0.out.mpc nx)
  clear h M0
  go_enter Try.func33, Try.ntmps33
  go_upto_region 2 with (fail)
  obtain ⟨W, hW⟩ : ∃ W, (wr.alloc (.cells #[.int .i64 1, .int .i64 a, .int .i64 b, .int .i64 c, .int .i64 n] 30)).setCell ⟨g, 0, none⟩ (.int .i64 nx) = W := ⟨_, rfl⟩
  obtain ⟨q, hq⟩ : ∃ q, wr.heap.size = q := ⟨_, rfl⟩
  rw [hW, hq] at M1
  simp only [hW, hq]
  have i0 : W.cell? ⟨q, 0, none⟩ = some (.int .i64 1) := by rw [M1.out.swap.cel.cell]; rfl
  have i1 : W.cell? ⟨q, 1, none⟩ = some (.int .i64 a) := by rw [M1.out.swap.cel.cell]; rfl
  have i2 : W.cell? ⟨q, 2, none⟩ = some (.int .i64 b) := by rw [M1.out.swap.cel.cell]; rfl
  have i3 : W.cell? ⟨q, 3, none⟩ = some (.int .i64 c) := by rw [M1.out.swap.cel.cell]; rfl
  have i4 : W.cell? ⟨q, 4, none⟩ = some (.int .i64 n) := by rw [M1.out.swap.cel.cell]; rfl
  have ra : W.cell? ⟨g, 2 + a, none⟩ = some (.int .i64 (cx.r a)) := by rw [M1.out.mblk.cell]; exact mc_reg _ _ _ ha
  have rb : W.cell? ⟨g, 2 + b, none⟩ = some (.int .i64 (cx.r b)) := by rw [M1.out.mblk.cell]; exact mc_reg _ _ _ hb
  have rc : W.cell? ⟨g, 2 + c, none⟩ = some (.int .i64 (cx.r c)) := by rw [M1.out.mblk.cell]; exact mc_reg _ _ _ hc
  have rpc : W.cell? ⟨g, 0, none⟩ = some (.int .i64 nx) := by rw [M1.out.mblk.cell]; rfl
  have r15 : W.cell? ⟨g, 17, none⟩ = some (.int .i64 (cx.r 15)) := by rw [M1.out.mblk.cell]; rfl
  have rm : W.cell? ⟨g, 18, none⟩ = some (.pointer (some ⟨s, 0, none⟩)) := by rw [M1.out.mblk.cell]; rfl
  have rp : W.cell? ⟨g, 1, none⟩ = some (.int .i64 cx.tp) := by rw [M1.out.mblk.cell]; rfl
  have fz : Hid (∀ k, W.frozen? ⟨g, k, none⟩ = false) := Lib.hid (fun k => M1.out.mblk.free k)
  have na0 : (0 : Int) ≤ (a : Int) := by omega
  have na1 : (a : Int) < 16 := by omega
  have nb0 : (0 : Int) ≤ (b : Int) := by omega
  have nb1 : (b : Int) < 16 := by omega
  have nc0 : (0 : Int) ≤ (c : Int) := by omega
  have nc1 : (c : Int) < 16 := by omega
  clear f0 g0 hW hq
  have fa := fz.out (2 + a)
  go_wp2_with fail
  go_still_tail 9, (by kernel_rfl)
  change wpList _ _ _ _ _ W.drew
  have M2 := Lib.hid (M1.out.stay below_drw)
  have fa2 : W.drew.frozen? ⟨g, 2 + a, none⟩ = false := fa
  have ra2 : W.drew.cell? ⟨g, 2 + a, none⟩ = some (.int .i64 (cx.r a)) := by assumption
  generalize W.drew = W2 at M2 fa2 ra2 ⊢
  have M3 := Lib.hid (M2.out.mset ha (n)).swap.right
  go_wp2
  go_end0
  exact ⟨rfl, M3.out⟩

set_option maxRecDepth 100000 in
set_option maxHeartbeats 2000000 in
theorem act_mov [hY : Fr Y] (h : Has B w wr (Star (Mc g cx s ev0) (Star (Sp s L) Y))) {a b c : Nat} (ha : a < 16) (hb : b < 16) (hc : c < 16) (n nx : Int) :
    Calls Try.prog 33 #[.pointer (some ⟨g, 0, none⟩), .agg #[.int .i64 2, .int .i64 a, .int .i64 b, .int .i64 c, .int .i64 n], .int .i64 nx] wr fun x w' => x = .returned (.tuple #[]) ∧ Has B w w' (Star (Mc g { cx with pc := nx, r := upd cx.r a (cx.r b) } s ev0) (Star (Sp s L) Y)) := by
  have M0 := Lib.hid (h.newcel 30 #[.int .i64 2, .int .i64 a, .int .i64 b, .int .i64 c, .int .i64 n]).swap
  have f0 : (wr.alloc (.cells #[.int .i64 2, .int .i64 a, .int .i64 b, .int .i64 c, .int .i64 n] 30)).frozen? ⟨g, 0, none⟩ = false := M0.out.mblk.free 0
  have g0 : (wr.alloc (.cells #[.int .i64 2, .int .i64 a, .int .i64 b, .int .i64 c, .int .i64 n] 30)).cell? ⟨g, 0, none⟩ = some (.int .i64 cx.pc) := by rw [M0.out.mblk.cell]; rfl
  have M1 := Lib.hid (M0.out.mpc nx)
  clear h M0
  go_enter Try.func33, Try.ntmps33
  go_upto_region 2 with (fail)
  obtain ⟨W, hW⟩ : ∃ W, (wr.alloc (.cells #[.int .i64 2, .int .i64 a, .int .i64 b, .int .i64 c, .int .i64 n] 30)).setCell ⟨g, 0, none⟩ (.int .i64 nx) = W := ⟨_, rfl⟩
  obtain ⟨q, hq⟩ : ∃ q, wr.heap.size = q := ⟨_, rfl⟩
  rw [hW, hq] at M1
  simp only [hW, hq]
  have i0 : W.cell? ⟨q, 0, none⟩ = some (.int .i64 2) := by rw [M1.out.swap.cel.cell]; rfl
  have i1 : W.cell? ⟨q, 1, none⟩ = some (.int .i64 a) := by rw [M1.out.swap.cel.cell]; rfl
  have i2 : W.cell? ⟨q, 2, none⟩ = some (.int .i64 b) := by rw [M1.out.swap.cel.cell]; rfl
  have i3 : W.cell? ⟨q, 3, none⟩ = some (.int .i64 c) := by rw [M1.out.swap.cel.cell]; rfl
  have i4 : W.cell? ⟨q, 4, none⟩ = some (.int .i64 n) := by rw [M1.out.swap.cel.cell]; rfl
  have ra : W.cell? ⟨g, 2 + a, none⟩ = some (.int .i64 (cx.r a)) := by rw [M1.out.mblk.cell]; exact mc_reg _ _ _ ha
  have rb : W.cell? ⟨g, 2 + b, none⟩ = some (.int .i64 (cx.r b)) := by rw [M1.out.mblk.cell]; exact mc_reg _ _ _ hb
  have rc : W.cell? ⟨g, 2 + c, none⟩ = some (.int .i64 (cx.r c)) := by rw [M1.out.mblk.cell]; exact mc_reg _ _ _ hc
  have rpc : W.cell? ⟨g, 0, none⟩ = some (.int .i64 nx) := by rw [M1.out.mblk.cell]; rfl
  have r15 : W.cell? ⟨g, 17, none⟩ = some (.int .i64 (cx.r 15)) := by rw [M1.out.mblk.cell]; rfl
  have rm : W.cell? ⟨g, 18, none⟩ = some (.pointer (some ⟨s, 0, none⟩)) := by rw [M1.out.mblk.cell]; rfl
  have rp : W.cell? ⟨g, 1, none⟩ = some (.int .i64 cx.tp) := by rw [M1.out.mblk.cell]; rfl
  have fz : Hid (∀ k, W.frozen? ⟨g, k, none⟩ = false) := Lib.hid (fun k => M1.out.mblk.free k)
  have na0 : (0 : Int) ≤ (a : Int) := by omega
  have na1 : (a : Int) < 16 := by omega
  have nb0 : (0 : Int) ≤ (b : Int) := by omega
  have nb1 : (b : Int) < 16 := by omega
  have nc0 : (0 : Int) ≤ (c : Int) := by omega
  have nc1 : (c : Int) < 16 := by omega
  clear f0 g0 hW hq
  have fa := fz.out (2 + a)
  go_wp2_with fail
  go_still_tail 15, (by kernel_rfl)
  change wpList _ _ _ _ _ W.drew
  have M2 := Lib.hid (M1.out.stay below_drw)
  have fa2 : W.drew.frozen? ⟨g, 2 + a, none⟩ = false := fa
  have ra2 : W.drew.cell? ⟨g, 2 + a, none⟩ = some (.int .i64 (cx.r a)) := by assumption
  generalize W.drew = W2 at M2 fa2 ra2 ⊢
  have M3 := Lib.hid (M2.out.mset ha (cx.r b)).swap.right
  go_wp2
  go_end0
  exact ⟨rfl, M3.out⟩

set_option maxRecDepth 100000 in
set_option maxHeartbeats 2000000 in
theorem act_lea [hY : Fr Y] (h : Has B w wr (Star (Mc g cx s ev0) (Star (Sp s L) Y))) {a b c : Nat} (ha : a < 16) (hb : b < 16) (hc : c < 16) (n nx : Int) :
    Calls Try.prog 33 #[.pointer (some ⟨g, 0, none⟩), .agg #[.int .i64 12, .int .i64 a, .int .i64 b, .int .i64 c, .int .i64 n], .int .i64 nx] wr fun x w' => x = .returned (.tuple #[]) ∧ Has B w w' (Star (Mc g { cx with pc := nx, r := upd cx.r a (wrap64 (nx + n)) } s ev0) (Star (Sp s L) Y)) := by
  have M0 := Lib.hid (h.newcel 30 #[.int .i64 12, .int .i64 a, .int .i64 b, .int .i64 c, .int .i64 n]).swap
  have f0 : (wr.alloc (.cells #[.int .i64 12, .int .i64 a, .int .i64 b, .int .i64 c, .int .i64 n] 30)).frozen? ⟨g, 0, none⟩ = false := M0.out.mblk.free 0
  have g0 : (wr.alloc (.cells #[.int .i64 12, .int .i64 a, .int .i64 b, .int .i64 c, .int .i64 n] 30)).cell? ⟨g, 0, none⟩ = some (.int .i64 cx.pc) := by rw [M0.out.mblk.cell]; rfl
  have M1 := Lib.hid (M0.out.mpc nx)
  clear h M0
  go_enter Try.func33, Try.ntmps33
  go_upto_region 2 with (fail)
  obtain ⟨W, hW⟩ : ∃ W, (wr.alloc (.cells #[.int .i64 12, .int .i64 a, .int .i64 b, .int .i64 c, .int .i64 n] 30)).setCell ⟨g, 0, none⟩ (.int .i64 nx) = W := ⟨_, rfl⟩
  obtain ⟨q, hq⟩ : ∃ q, wr.heap.size = q := ⟨_, rfl⟩
  rw [hW, hq] at M1
  simp only [hW, hq]
  have i0 : W.cell? ⟨q, 0, none⟩ = some (.int .i64 12) := by rw [M1.out.swap.cel.cell]; rfl
  have i1 : W.cell? ⟨q, 1, none⟩ = some (.int .i64 a) := by rw [M1.out.swap.cel.cell]; rfl
  have i2 : W.cell? ⟨q, 2, none⟩ = some (.int .i64 b) := by rw [M1.out.swap.cel.cell]; rfl
  have i3 : W.cell? ⟨q, 3, none⟩ = some (.int .i64 c) := by rw [M1.out.swap.cel.cell]; rfl
  have i4 : W.cell? ⟨q, 4, none⟩ = some (.int .i64 n) := by rw [M1.out.swap.cel.cell]; rfl
  have ra : W.cell? ⟨g, 2 + a, none⟩ = some (.int .i64 (cx.r a)) := by rw [M1.out.mblk.cell]; exact mc_reg _ _ _ ha
  have rb : W.cell? ⟨g, 2 + b, none⟩ = some (.int .i64 (cx.r b)) := by rw [M1.out.mblk.cell]; exact mc_reg _ _ _ hb
  have rc : W.cell? ⟨g, 2 + c, none⟩ = some (.int .i64 (cx.r c)) := by rw [M1.out.mblk.cell]; exact mc_reg _ _ _ hc
  have rpc : W.cell? ⟨g, 0, none⟩ = some (.int .i64 nx) := by rw [M1.out.mblk.cell]; rfl
  have r15 : W.cell? ⟨g, 17, none⟩ = some (.int .i64 (cx.r 15)) := by rw [M1.out.mblk.cell]; rfl
  have rm : W.cell? ⟨g, 18, none⟩ = some (.pointer (some ⟨s, 0, none⟩)) := by rw [M1.out.mblk.cell]; rfl
  have rp : W.cell? ⟨g, 1, none⟩ = some (.int .i64 cx.tp) := by rw [M1.out.mblk.cell]; rfl
  have fz : Hid (∀ k, W.frozen? ⟨g, k, none⟩ = false) := Lib.hid (fun k => M1.out.mblk.free k)
  have na0 : (0 : Int) ≤ (a : Int) := by omega
  have na1 : (a : Int) < 16 := by omega
  have nb0 : (0 : Int) ≤ (b : Int) := by omega
  have nb1 : (b : Int) < 16 := by omega
  have nc0 : (0 : Int) ≤ (c : Int) := by omega
  have nc1 : (c : Int) < 16 := by omega
  clear f0 g0 hW hq
  have fa := fz.out (2 + a)
  go_wp2_with fail
  go_still_tail 11, (by kernel_rfl)
  change wpList _ _ _ _ _ W.drew
  have M2 := Lib.hid (M1.out.stay below_drw)
  have fa2 : W.drew.frozen? ⟨g, 2 + a, none⟩ = false := fa
  have ra2 : W.drew.cell? ⟨g, 2 + a, none⟩ = some (.int .i64 (cx.r a)) := by assumption
  generalize W.drew = W2 at M2 fa2 ra2 ⊢
  have M3 := Lib.hid (M2.out.mset ha (wrap64 (nx + n))).swap.right
  go_wp2
  go_end0
  exact ⟨rfl, M3.out⟩

set_option maxRecDepth 100000 in
set_option maxHeartbeats 2000000 in
theorem act_tp [hY : Fr Y] (h : Has B w wr (Star (Mc g cx s ev0) (Star (Sp s L) Y))) {a b c : Nat} (ha : a < 16) (hb : b < 16) (hc : c < 16) (n nx : Int) :
    Calls Try.prog 33 #[.pointer (some ⟨g, 0, none⟩), .agg #[.int .i64 20, .int .i64 a, .int .i64 b, .int .i64 c, .int .i64 n], .int .i64 nx] wr fun x w' => x = .returned (.tuple #[]) ∧ Has B w w' (Star (Mc g { cx with pc := nx, r := upd cx.r a (cx.tp) } s ev0) (Star (Sp s L) Y)) := by
  have M0 := Lib.hid (h.newcel 30 #[.int .i64 20, .int .i64 a, .int .i64 b, .int .i64 c, .int .i64 n]).swap
  have f0 : (wr.alloc (.cells #[.int .i64 20, .int .i64 a, .int .i64 b, .int .i64 c, .int .i64 n] 30)).frozen? ⟨g, 0, none⟩ = false := M0.out.mblk.free 0
  have g0 : (wr.alloc (.cells #[.int .i64 20, .int .i64 a, .int .i64 b, .int .i64 c, .int .i64 n] 30)).cell? ⟨g, 0, none⟩ = some (.int .i64 cx.pc) := by rw [M0.out.mblk.cell]; rfl
  have M1 := Lib.hid (M0.out.mpc nx)
  clear h M0
  go_enter Try.func33, Try.ntmps33
  go_upto_region 2 with (fail)
  obtain ⟨W, hW⟩ : ∃ W, (wr.alloc (.cells #[.int .i64 20, .int .i64 a, .int .i64 b, .int .i64 c, .int .i64 n] 30)).setCell ⟨g, 0, none⟩ (.int .i64 nx) = W := ⟨_, rfl⟩
  obtain ⟨q, hq⟩ : ∃ q, wr.heap.size = q := ⟨_, rfl⟩
  rw [hW, hq] at M1
  simp only [hW, hq]
  have i0 : W.cell? ⟨q, 0, none⟩ = some (.int .i64 20) := by rw [M1.out.swap.cel.cell]; rfl
  have i1 : W.cell? ⟨q, 1, none⟩ = some (.int .i64 a) := by rw [M1.out.swap.cel.cell]; rfl
  have i2 : W.cell? ⟨q, 2, none⟩ = some (.int .i64 b) := by rw [M1.out.swap.cel.cell]; rfl
  have i3 : W.cell? ⟨q, 3, none⟩ = some (.int .i64 c) := by rw [M1.out.swap.cel.cell]; rfl
  have i4 : W.cell? ⟨q, 4, none⟩ = some (.int .i64 n) := by rw [M1.out.swap.cel.cell]; rfl
  have ra : W.cell? ⟨g, 2 + a, none⟩ = some (.int .i64 (cx.r a)) := by rw [M1.out.mblk.cell]; exact mc_reg _ _ _ ha
  have rb : W.cell? ⟨g, 2 + b, none⟩ = some (.int .i64 (cx.r b)) := by rw [M1.out.mblk.cell]; exact mc_reg _ _ _ hb
  have rc : W.cell? ⟨g, 2 + c, none⟩ = some (.int .i64 (cx.r c)) := by rw [M1.out.mblk.cell]; exact mc_reg _ _ _ hc
  have rpc : W.cell? ⟨g, 0, none⟩ = some (.int .i64 nx) := by rw [M1.out.mblk.cell]; rfl
  have r15 : W.cell? ⟨g, 17, none⟩ = some (.int .i64 (cx.r 15)) := by rw [M1.out.mblk.cell]; rfl
  have rm : W.cell? ⟨g, 18, none⟩ = some (.pointer (some ⟨s, 0, none⟩)) := by rw [M1.out.mblk.cell]; rfl
  have rp : W.cell? ⟨g, 1, none⟩ = some (.int .i64 cx.tp) := by rw [M1.out.mblk.cell]; rfl
  have fz : Hid (∀ k, W.frozen? ⟨g, k, none⟩ = false) := Lib.hid (fun k => M1.out.mblk.free k)
  have na0 : (0 : Int) ≤ (a : Int) := by omega
  have na1 : (a : Int) < 16 := by omega
  have nb0 : (0 : Int) ≤ (b : Int) := by omega
  have nb1 : (b : Int) < 16 := by omega
  have nc0 : (0 : Int) ≤ (c : Int) := by omega
  have nc1 : (c : Int) < 16 := by omega
  clear f0 g0 hW hq
  have fa := fz.out (2 + a)
  go_wp2_with fail
  go_still_tail 12, (by kernel_rfl)
  change wpList _ _ _ _ _ W.drew
  have M2 := Lib.hid (M1.out.stay below_drw)
  have fa2 : W.drew.frozen? ⟨g, 2 + a, none⟩ = false := fa
  have ra2 : W.drew.cell? ⟨g, 2 + a, none⟩ = some (.int .i64 (cx.r a)) := by assumption
  generalize W.drew = W2 at M2 fa2 ra2 ⊢
  have M3 := Lib.hid (M2.out.mset ha (cx.tp)).swap.right
  go_wp2
  go_end0
  exact ⟨rfl, M3.out⟩

set_option maxRecDepth 100000 in
set_option maxHeartbeats 2000000 in
theorem act_jmp [hY : Fr Y] (h : Has B w wr (Star (Mc g cx s ev0) (Star (Sp s L) Y))) {a b c : Nat} (ha : a < 16) (hb : b < 16) (hc : c < 16) (n nx : Int) :
    Calls Try.prog 33 #[.pointer (some ⟨g, 0, none⟩), .agg #[.int .i64 13, .int .i64 a, .int .i64 b, .int .i64 c, .int .i64 n], .int .i64 nx] wr fun x w' => x = .returned (.tuple #[]) ∧ Has B w w' (Star (Mc g { cx with pc := wrap64 (nx + n) } s ev0) (Star (Sp s L) Y)) := by
  have M0 := Lib.hid (h.newcel 30 #[.int .i64 13, .int .i64 a, .int .i64 b, .int .i64 c, .int .i64 n]).swap
  have f0 : (wr.alloc (.cells #[.int .i64 13, .int .i64 a, .int .i64 b, .int .i64 c, .int .i64 n] 30)).frozen? ⟨g, 0, none⟩ = false := M0.out.mblk.free 0
  have g0 : (wr.alloc (.cells #[.int .i64 13, .int .i64 a, .int .i64 b, .int .i64 c, .int .i64 n] 30)).cell? ⟨g, 0, none⟩ = some (.int .i64 cx.pc) := by rw [M0.out.mblk.cell]; rfl
  have M1 := Lib.hid (M0.out.mpc nx)
  clear h M0
  go_enter Try.func33, Try.ntmps33
  go_upto_region 2 with (fail)
  obtain ⟨W, hW⟩ : ∃ W, (wr.alloc (.cells #[.int .i64 13, .int .i64 a, .int .i64 b, .int .i64 c, .int .i64 n] 30)).setCell ⟨g, 0, none⟩ (.int .i64 nx) = W := ⟨_, rfl⟩
  obtain ⟨q, hq⟩ : ∃ q, wr.heap.size = q := ⟨_, rfl⟩
  rw [hW, hq] at M1
  simp only [hW, hq]
  have i0 : W.cell? ⟨q, 0, none⟩ = some (.int .i64 13) := by rw [M1.out.swap.cel.cell]; rfl
  have i1 : W.cell? ⟨q, 1, none⟩ = some (.int .i64 a) := by rw [M1.out.swap.cel.cell]; rfl
  have i2 : W.cell? ⟨q, 2, none⟩ = some (.int .i64 b) := by rw [M1.out.swap.cel.cell]; rfl
  have i3 : W.cell? ⟨q, 3, none⟩ = some (.int .i64 c) := by rw [M1.out.swap.cel.cell]; rfl
  have i4 : W.cell? ⟨q, 4, none⟩ = some (.int .i64 n) := by rw [M1.out.swap.cel.cell]; rfl
  have ra : W.cell? ⟨g, 2 + a, none⟩ = some (.int .i64 (cx.r a)) := by rw [M1.out.mblk.cell]; exact mc_reg _ _ _ ha
  have rb : W.cell? ⟨g, 2 + b, none⟩ = some (.int .i64 (cx.r b)) := by rw [M1.out.mblk.cell]; exact mc_reg _ _ _ hb
  have rc : W.cell? ⟨g, 2 + c, none⟩ = some (.int .i64 (cx.r c)) := by rw [M1.out.mblk.cell]; exact mc_reg _ _ _ hc
  have rpc : W.cell? ⟨g, 0, none⟩ = some (.int .i64 nx) := by rw [M1.out.mblk.cell]; rfl
  have r15 : W.cell? ⟨g, 17, none⟩ = some (.int .i64 (cx.r 15)) := by rw [M1.out.mblk.cell]; rfl
  have rm : W.cell? ⟨g, 18, none⟩ = some (.pointer (some ⟨s, 0, none⟩)) := by rw [M1.out.mblk.cell]; rfl
  have rp : W.cell? ⟨g, 1, none⟩ = some (.int .i64 cx.tp) := by rw [M1.out.mblk.cell]; rfl
  have fz : Hid (∀ k, W.frozen? ⟨g, k, none⟩ = false) := Lib.hid (fun k => M1.out.mblk.free k)
  have na0 : (0 : Int) ≤ (a : Int) := by omega
  have na1 : (a : Int) < 16 := by omega
  have nb0 : (0 : Int) ≤ (b : Int) := by omega
  have nb1 : (b : Int) < 16 := by omega
  have nc0 : (0 : Int) ≤ (c : Int) := by omega
  have nc1 : (c : Int) < 16 := by omega
  clear f0 g0 hW hq
  have fa := fz.out 0
  have M3 := Lib.hid (M1.out.mpc (wrap64 (nx + n))).swap.right
  go_wp2
  go_end0
  exact ⟨rfl, M3.out⟩

set_option maxRecDepth 100000 in
set_option maxHeartbeats 2000000 in
theorem act_jmpr [hY : Fr Y] (h : Has B w wr (Star (Mc g cx s ev0) (Star (Sp s L) Y))) {a b c : Nat} (ha : a < 16) (hb : b < 16) (hc : c < 16) (n nx : Int) :
    Calls Try.prog 33 #[.pointer (some ⟨g, 0, none⟩), .agg #[.int .i64 17, .int .i64 a, .int .i64 b, .int .i64 c, .int .i64 n], .int .i64 nx] wr fun x w' => x = .returned (.tuple #[]) ∧ Has B w w' (Star (Mc g { cx with pc := cx.r a } s ev0) (Star (Sp s L) Y)) := by
  have M0 := Lib.hid (h.newcel 30 #[.int .i64 17, .int .i64 a, .int .i64 b, .int .i64 c, .int .i64 n]).swap
  have f0 : (wr.alloc (.cells #[.int .i64 17, .int .i64 a, .int .i64 b, .int .i64 c, .int .i64 n] 30)).frozen? ⟨g, 0, none⟩ = false := M0.out.mblk.free 0
  have g0 : (wr.alloc (.cells #[.int .i64 17, .int .i64 a, .int .i64 b, .int .i64 c, .int .i64 n] 30)).cell? ⟨g, 0, none⟩ = some (.int .i64 cx.pc) := by rw [M0.out.mblk.cell]; rfl
  have M1 := Lib.hid (M0.out.mpc nx)
  clear h M0
  go_enter Try.func33, Try.ntmps33
  go_upto_region 2 with (fail)
  obtain ⟨W, hW⟩ : ∃ W, (wr.alloc (.cells #[.int .i64 17, .int .i64 a, .int .i64 b, .int .i64 c, .int .i64 n] 30)).setCell ⟨g, 0, none⟩ (.int .i64 nx) = W := ⟨_, rfl⟩
  obtain ⟨q, hq⟩ : ∃ q, wr.heap.size = q := ⟨_, rfl⟩
  rw [hW, hq] at M1
  simp only [hW, hq]
  have i0 : W.cell? ⟨q, 0, none⟩ = some (.int .i64 17) := by rw [M1.out.swap.cel.cell]; rfl
  have i1 : W.cell? ⟨q, 1, none⟩ = some (.int .i64 a) := by rw [M1.out.swap.cel.cell]; rfl
  have i2 : W.cell? ⟨q, 2, none⟩ = some (.int .i64 b) := by rw [M1.out.swap.cel.cell]; rfl
  have i3 : W.cell? ⟨q, 3, none⟩ = some (.int .i64 c) := by rw [M1.out.swap.cel.cell]; rfl
  have i4 : W.cell? ⟨q, 4, none⟩ = some (.int .i64 n) := by rw [M1.out.swap.cel.cell]; rfl
  have ra : W.cell? ⟨g, 2 + a, none⟩ = some (.int .i64 (cx.r a)) := by rw [M1.out.mblk.cell]; exact mc_reg _ _ _ ha
  have rb : W.cell? ⟨g, 2 + b, none⟩ = some (.int .i64 (cx.r b)) := by rw [M1.out.mblk.cell]; exact mc_reg _ _ _ hb
  have rc : W.cell? ⟨g, 2 + c, none⟩ = some (.int .i64 (cx.r c)) := by rw [M1.out.mblk.cell]; exact mc_reg _ _ _ hc
  have rpc : W.cell? ⟨g, 0, none⟩ = some (.int .i64 nx) := by rw [M1.out.mblk.cell]; rfl
  have r15 : W.cell? ⟨g, 17, none⟩ = some (.int .i64 (cx.r 15)) := by rw [M1.out.mblk.cell]; rfl
  have rm : W.cell? ⟨g, 18, none⟩ = some (.pointer (some ⟨s, 0, none⟩)) := by rw [M1.out.mblk.cell]; rfl
  have rp : W.cell? ⟨g, 1, none⟩ = some (.int .i64 cx.tp) := by rw [M1.out.mblk.cell]; rfl
  have fz : Hid (∀ k, W.frozen? ⟨g, k, none⟩ = false) := Lib.hid (fun k => M1.out.mblk.free k)
  have na0 : (0 : Int) ≤ (a : Int) := by omega
  have na1 : (a : Int) < 16 := by omega
  have nb0 : (0 : Int) ≤ (b : Int) := by omega
  have nb1 : (b : Int) < 16 := by omega
  have nc0 : (0 : Int) ≤ (c : Int) := by omega
  have nc1 : (c : Int) < 16 := by omega
  clear f0 g0 hW hq
  have fa := fz.out (0)
  go_wp2_with fail
  go_still_tail 12, (by kernel_rfl)
  change wpList _ _ _ _ _ W.drew
  have M2 := Lib.hid (M1.out.stay below_drw)
  have fa2 : W.drew.frozen? ⟨g, 0, none⟩ = false := fa
  have ra2 : W.drew.cell? ⟨g, 0, none⟩ = some (.int .i64 nx) := by assumption
  generalize W.drew = W2 at M2 fa2 ra2 ⊢
  have M3 := Lib.hid (M2.out.mpc (cx.r a)).swap.right
  go_wp2
  go_end0
  exact ⟨rfl, M3.out⟩

set_option maxRecDepth 100000 in
set_option maxHeartbeats 2000000 in
theorem act_halt [hY : Fr Y] (h : Has B w wr (Star (Mc g cx s ev0) (Star (Sp s L) Y))) {a b c : Nat} (ha : a < 16) (hb : b < 16) (hc : c < 16) (n nx : Int) :
    Calls Try.prog 33 #[.pointer (some ⟨g, 0, none⟩), .agg #[.int .i64 0, .int .i64 a, .int .i64 b, .int .i64 c, .int .i64 n], .int .i64 nx] wr fun x w' => x = .returned (.tuple #[]) ∧ Has B w w' (Star (Mc g { cx with pc := nx } s (trapV 40)) (Star (Sp s L) Y)) := by
  have M0 := Lib.hid (h.newcel 30 #[.int .i64 0, .int .i64 a, .int .i64 b, .int .i64 c, .int .i64 n]).swap
  have f0 : (wr.alloc (.cells #[.int .i64 0, .int .i64 a, .int .i64 b, .int .i64 c, .int .i64 n] 30)).frozen? ⟨g, 0, none⟩ = false := M0.out.mblk.free 0
  have g0 : (wr.alloc (.cells #[.int .i64 0, .int .i64 a, .int .i64 b, .int .i64 c, .int .i64 n] 30)).cell? ⟨g, 0, none⟩ = some (.int .i64 cx.pc) := by rw [M0.out.mblk.cell]; rfl
  have M1 := Lib.hid (M0.out.mpc nx)
  clear h M0
  go_enter Try.func33, Try.ntmps33
  go_upto_region 2 with (fail)
  obtain ⟨W, hW⟩ : ∃ W, (wr.alloc (.cells #[.int .i64 0, .int .i64 a, .int .i64 b, .int .i64 c, .int .i64 n] 30)).setCell ⟨g, 0, none⟩ (.int .i64 nx) = W := ⟨_, rfl⟩
  obtain ⟨q, hq⟩ : ∃ q, wr.heap.size = q := ⟨_, rfl⟩
  rw [hW, hq] at M1
  simp only [hW, hq]
  have i0 : W.cell? ⟨q, 0, none⟩ = some (.int .i64 0) := by rw [M1.out.swap.cel.cell]; rfl
  have i1 : W.cell? ⟨q, 1, none⟩ = some (.int .i64 a) := by rw [M1.out.swap.cel.cell]; rfl
  have i2 : W.cell? ⟨q, 2, none⟩ = some (.int .i64 b) := by rw [M1.out.swap.cel.cell]; rfl
  have i3 : W.cell? ⟨q, 3, none⟩ = some (.int .i64 c) := by rw [M1.out.swap.cel.cell]; rfl
  have i4 : W.cell? ⟨q, 4, none⟩ = some (.int .i64 n) := by rw [M1.out.swap.cel.cell]; rfl
  have ra : W.cell? ⟨g, 2 + a, none⟩ = some (.int .i64 (cx.r a)) := by rw [M1.out.mblk.cell]; exact mc_reg _ _ _ ha
  have rb : W.cell? ⟨g, 2 + b, none⟩ = some (.int .i64 (cx.r b)) := by rw [M1.out.mblk.cell]; exact mc_reg _ _ _ hb
  have rc : W.cell? ⟨g, 2 + c, none⟩ = some (.int .i64 (cx.r c)) := by rw [M1.out.mblk.cell]; exact mc_reg _ _ _ hc
  have rpc : W.cell? ⟨g, 0, none⟩ = some (.int .i64 nx) := by rw [M1.out.mblk.cell]; rfl
  have r15 : W.cell? ⟨g, 17, none⟩ = some (.int .i64 (cx.r 15)) := by rw [M1.out.mblk.cell]; rfl
  have rm : W.cell? ⟨g, 18, none⟩ = some (.pointer (some ⟨s, 0, none⟩)) := by rw [M1.out.mblk.cell]; rfl
  have rp : W.cell? ⟨g, 1, none⟩ = some (.int .i64 cx.tp) := by rw [M1.out.mblk.cell]; rfl
  have fz : Hid (∀ k, W.frozen? ⟨g, k, none⟩ = false) := Lib.hid (fun k => M1.out.mblk.free k)
  have na0 : (0 : Int) ≤ (a : Int) := by omega
  have na1 : (a : Int) < 16 := by omega
  have nb0 : (0 : Int) ≤ (b : Int) := by omega
  have nb1 : (b : Int) < 16 := by omega
  have nc0 : (0 : Int) ≤ (c : Int) := by omega
  have nc1 : (c : Int) < 16 := by omega
  clear f0 g0 hW hq
  have C1 := Lib.hid (trap_any M1.out 40)
  go_wp2_with fail
  refine (C1.out).mono ?_
  rintro e w2 ⟨rfl, m2⟩
  have M3 := Lib.hid m2.swap.right; clear m2
  go_wp2
  go_end0
  exact ⟨rfl, M3.out⟩

set_option maxRecDepth 100000 in
set_option maxHeartbeats 2000000 in
theorem act_out [hY : Fr Y] (h : Has B w wr (Star (Mc g cx s ev0) (Star (Sp s L) Y))) {a b c : Nat} (ha : a < 16) (hb : b < 16) (hc : c < 16) (n nx : Int) :
    Calls Try.prog 33 #[.pointer (some ⟨g, 0, none⟩), .agg #[.int .i64 19, .int .i64 a, .int .i64 b, .int .i64 c, .int .i64 n], .int .i64 nx] wr fun x w' => x = .returned (.tuple #[]) ∧ Has B w w' (Star (Mc g { cx with pc := nx } s (⟨2, cx.r a, 0, 0, 0⟩)) (Star (Sp s L) Y)) := by
  have M0 := Lib.hid (h.newcel 30 #[.int .i64 19, .int .i64 a, .int .i64 b, .int .i64 c, .int .i64 n]).swap
  have f0 : (wr.alloc (.cells #[.int .i64 19, .int .i64 a, .int .i64 b, .int .i64 c, .int .i64 n] 30)).frozen? ⟨g, 0, none⟩ = false := M0.out.mblk.free 0
  have g0 : (wr.alloc (.cells #[.int .i64 19, .int .i64 a, .int .i64 b, .int .i64 c, .int .i64 n] 30)).cell? ⟨g, 0, none⟩ = some (.int .i64 cx.pc) := by rw [M0.out.mblk.cell]; rfl
  have M1 := Lib.hid (M0.out.mpc nx)
  clear h M0
  go_enter Try.func33, Try.ntmps33
  go_upto_region 2 with (fail)
  obtain ⟨W, hW⟩ : ∃ W, (wr.alloc (.cells #[.int .i64 19, .int .i64 a, .int .i64 b, .int .i64 c, .int .i64 n] 30)).setCell ⟨g, 0, none⟩ (.int .i64 nx) = W := ⟨_, rfl⟩
  obtain ⟨q, hq⟩ : ∃ q, wr.heap.size = q := ⟨_, rfl⟩
  rw [hW, hq] at M1
  simp only [hW, hq]
  have i0 : W.cell? ⟨q, 0, none⟩ = some (.int .i64 19) := by rw [M1.out.swap.cel.cell]; rfl
  have i1 : W.cell? ⟨q, 1, none⟩ = some (.int .i64 a) := by rw [M1.out.swap.cel.cell]; rfl
  have i2 : W.cell? ⟨q, 2, none⟩ = some (.int .i64 b) := by rw [M1.out.swap.cel.cell]; rfl
  have i3 : W.cell? ⟨q, 3, none⟩ = some (.int .i64 c) := by rw [M1.out.swap.cel.cell]; rfl
  have i4 : W.cell? ⟨q, 4, none⟩ = some (.int .i64 n) := by rw [M1.out.swap.cel.cell]; rfl
  have ra : W.cell? ⟨g, 2 + a, none⟩ = some (.int .i64 (cx.r a)) := by rw [M1.out.mblk.cell]; exact mc_reg _ _ _ ha
  have rb : W.cell? ⟨g, 2 + b, none⟩ = some (.int .i64 (cx.r b)) := by rw [M1.out.mblk.cell]; exact mc_reg _ _ _ hb
  have rc : W.cell? ⟨g, 2 + c, none⟩ = some (.int .i64 (cx.r c)) := by rw [M1.out.mblk.cell]; exact mc_reg _ _ _ hc
  have rpc : W.cell? ⟨g, 0, none⟩ = some (.int .i64 nx) := by rw [M1.out.mblk.cell]; rfl
  have r15 : W.cell? ⟨g, 17, none⟩ = some (.int .i64 (cx.r 15)) := by rw [M1.out.mblk.cell]; rfl
  have rm : W.cell? ⟨g, 18, none⟩ = some (.pointer (some ⟨s, 0, none⟩)) := by rw [M1.out.mblk.cell]; rfl
  have rp : W.cell? ⟨g, 1, none⟩ = some (.int .i64 cx.tp) := by rw [M1.out.mblk.cell]; rfl
  have fz : Hid (∀ k, W.frozen? ⟨g, k, none⟩ = false) := Lib.hid (fun k => M1.out.mblk.free k)
  have na0 : (0 : Int) ≤ (a : Int) := by omega
  have na1 : (a : Int) < 16 := by omega
  have nb0 : (0 : Int) ≤ (b : Int) := by omega
  have nb1 : (b : Int) < 16 := by omega
  have nc0 : (0 : Int) ≤ (c : Int) := by omega
  have nc1 : (c : Int) < 16 := by omega
  clear f0 g0 hW hq
  have fa := fz.out 19
  have v19 : W.cell? ⟨g, 19, none⟩ = some (.int .i64 0) := by rw [M1.out.mblk.cell]; rfl
  have f19 : W.frozen? ⟨g, 19, none⟩ = false := M1.out.mblk.free 19
  have v20 : W.cell? ⟨g, 20, none⟩ = some (.int .i64 0) := by rw [M1.out.mblk.cell]; rfl
  have f20 : W.frozen? ⟨g, 20, none⟩ = false := M1.out.mblk.free 20
  have v21 : W.cell? ⟨g, 21, none⟩ = some (.int .i64 0) := by rw [M1.out.mblk.cell]; rfl
  have f21 : W.frozen? ⟨g, 21, none⟩ = false := M1.out.mblk.free 21
  have v22 : W.cell? ⟨g, 22, none⟩ = some (.int .i64 0) := by rw [M1.out.mblk.cell]; rfl
  have f22 : W.frozen? ⟨g, 22, none⟩ = false := M1.out.mblk.free 22
  have v23 : W.cell? ⟨g, 23, none⟩ = some (.int .i64 0) := by rw [M1.out.mblk.cell]; rfl
  have f23 : W.frozen? ⟨g, 23, none⟩ = false := M1.out.mblk.free 23
  go_wp2_with fail
  go_still_tail 12, (by kernel_rfl)
  change wpList _ _ _ _ _ W.drew
  have M2 := Lib.hid (M1.out.stay below_drw)
  generalize W.drew = W2 at M2 ⊢
  clear v19 v20 v21 v22 v23 f19 f20 f21 f22 f23
  have v19 : W2.cell? ⟨g, 19, none⟩ = some (.int .i64 0) := by rw [M2.out.mblk.cell]; rfl
  have f19 : W2.frozen? ⟨g, 19, none⟩ = false := M2.out.mblk.free 19
  have v20 : W2.cell? ⟨g, 20, none⟩ = some (.int .i64 0) := by rw [M2.out.mblk.cell]; rfl
  have f20 : W2.frozen? ⟨g, 20, none⟩ = false := M2.out.mblk.free 20
  have v21 : W2.cell? ⟨g, 21, none⟩ = some (.int .i64 0) := by rw [M2.out.mblk.cell]; rfl
  have f21 : W2.frozen? ⟨g, 21, none⟩ = false := M2.out.mblk.free 21
  have v22 : W2.cell? ⟨g, 22, none⟩ = some (.int .i64 0) := by rw [M2.out.mblk.cell]; rfl
  have f22 : W2.frozen? ⟨g, 22, none⟩ = false := M2.out.mblk.free 22
  have v23 : W2.cell? ⟨g, 23, none⟩ = some (.int .i64 0) := by rw [M2.out.mblk.cell]; rfl
  have f23 : W2.frozen? ⟨g, 23, none⟩ = false := M2.out.mblk.free 23
  have M3 := Lib.hid (M2.out.mev (⟨2, cx.r a, 0, 0, 0⟩)).swap.right
  go_wp2
  go_end0
  exact ⟨rfl, M3.out⟩

set_option maxRecDepth 100000 in
set_option maxHeartbeats 2000000 in
theorem act_tls [hY : Fr Y] (h : Has B w wr (Star (Mc g cx s ev0) (Star (Sp s L) Y))) {a b c : Nat} (ha : a < 16) (hb : b < 16) (hc : c < 16) (n nx : Int) :
    Calls Try.prog 33 #[.pointer (some ⟨g, 0, none⟩), .agg #[.int .i64 21, .int .i64 a, .int .i64 b, .int .i64 c, .int .i64 n], .int .i64 nx] wr fun x w' => x = .returned (.tuple #[]) ∧ Has B w w' (Star (Mc g { cx with pc := nx } s (⟨3, 0, a, b, 0⟩)) (Star (Sp s L) Y)) := by
  have M0 := Lib.hid (h.newcel 30 #[.int .i64 21, .int .i64 a, .int .i64 b, .int .i64 c, .int .i64 n]).swap
  have f0 : (wr.alloc (.cells #[.int .i64 21, .int .i64 a, .int .i64 b, .int .i64 c, .int .i64 n] 30)).frozen? ⟨g, 0, none⟩ = false := M0.out.mblk.free 0
  have g0 : (wr.alloc (.cells #[.int .i64 21, .int .i64 a, .int .i64 b, .int .i64 c, .int .i64 n] 30)).cell? ⟨g, 0, none⟩ = some (.int .i64 cx.pc) := by rw [M0.out.mblk.cell]; rfl
  have M1 := Lib.hid (M0.out.mpc nx)
  clear h M0
  go_enter Try.func33, Try.ntmps33
  go_upto_region 2 with (fail)
  obtain ⟨W, hW⟩ : ∃ W, (wr.alloc (.cells #[.int .i64 21, .int .i64 a, .int .i64 b, .int .i64 c, .int .i64 n] 30)).setCell ⟨g, 0, none⟩ (.int .i64 nx) = W := ⟨_, rfl⟩
  obtain ⟨q, hq⟩ : ∃ q, wr.heap.size = q := ⟨_, rfl⟩
  rw [hW, hq] at M1
  simp only [hW, hq]
  have i0 : W.cell? ⟨q, 0, none⟩ = some (.int .i64 21) := by rw [M1.out.swap.cel.cell]; rfl
  have i1 : W.cell? ⟨q, 1, none⟩ = some (.int .i64 a) := by rw [M1.out.swap.cel.cell]; rfl
  have i2 : W.cell? ⟨q, 2, none⟩ = some (.int .i64 b) := by rw [M1.out.swap.cel.cell]; rfl
  have i3 : W.cell? ⟨q, 3, none⟩ = some (.int .i64 c) := by rw [M1.out.swap.cel.cell]; rfl
  have i4 : W.cell? ⟨q, 4, none⟩ = some (.int .i64 n) := by rw [M1.out.swap.cel.cell]; rfl
  have ra : W.cell? ⟨g, 2 + a, none⟩ = some (.int .i64 (cx.r a)) := by rw [M1.out.mblk.cell]; exact mc_reg _ _ _ ha
  have rb : W.cell? ⟨g, 2 + b, none⟩ = some (.int .i64 (cx.r b)) := by rw [M1.out.mblk.cell]; exact mc_reg _ _ _ hb
  have rc : W.cell? ⟨g, 2 + c, none⟩ = some (.int .i64 (cx.r c)) := by rw [M1.out.mblk.cell]; exact mc_reg _ _ _ hc
  have rpc : W.cell? ⟨g, 0, none⟩ = some (.int .i64 nx) := by rw [M1.out.mblk.cell]; rfl
  have r15 : W.cell? ⟨g, 17, none⟩ = some (.int .i64 (cx.r 15)) := by rw [M1.out.mblk.cell]; rfl
  have rm : W.cell? ⟨g, 18, none⟩ = some (.pointer (some ⟨s, 0, none⟩)) := by rw [M1.out.mblk.cell]; rfl
  have rp : W.cell? ⟨g, 1, none⟩ = some (.int .i64 cx.tp) := by rw [M1.out.mblk.cell]; rfl
  have fz : Hid (∀ k, W.frozen? ⟨g, k, none⟩ = false) := Lib.hid (fun k => M1.out.mblk.free k)
  have na0 : (0 : Int) ≤ (a : Int) := by omega
  have na1 : (a : Int) < 16 := by omega
  have nb0 : (0 : Int) ≤ (b : Int) := by omega
  have nb1 : (b : Int) < 16 := by omega
  have nc0 : (0 : Int) ≤ (c : Int) := by omega
  have nc1 : (c : Int) < 16 := by omega
  clear f0 g0 hW hq
  have v19 : W.cell? ⟨g, 19, none⟩ = some (.int .i64 0) := by rw [M1.out.mblk.cell]; rfl
  have f19 : W.frozen? ⟨g, 19, none⟩ = false := M1.out.mblk.free 19
  have v20 : W.cell? ⟨g, 20, none⟩ = some (.int .i64 0) := by rw [M1.out.mblk.cell]; rfl
  have f20 : W.frozen? ⟨g, 20, none⟩ = false := M1.out.mblk.free 20
  have v21 : W.cell? ⟨g, 21, none⟩ = some (.int .i64 0) := by rw [M1.out.mblk.cell]; rfl
  have f21 : W.frozen? ⟨g, 21, none⟩ = false := M1.out.mblk.free 21
  have v22 : W.cell? ⟨g, 22, none⟩ = some (.int .i64 0) := by rw [M1.out.mblk.cell]; rfl
  have f22 : W.frozen? ⟨g, 22, none⟩ = false := M1.out.mblk.free 22
  have v23 : W.cell? ⟨g, 23, none⟩ = some (.int .i64 0) := by rw [M1.out.mblk.cell]; rfl
  have f23 : W.frozen? ⟨g, 23, none⟩ = false := M1.out.mblk.free 23
  have M3 := Lib.hid (M1.out.mev (⟨3, 0, a, b, 0⟩)).swap.right
  go_wp2
  go_end0
  exact ⟨rfl, M3.out⟩

set_option maxRecDepth 100000 in
set_option maxHeartbeats 2000000 in
theorem act_bind [hY : Fr Y] (h : Has B w wr (Star (Mc g cx s ev0) (Star (Sp s L) Y))) {a b c : Nat} (ha : a < 16) (hb : b < 16) (hc : c < 16) (n nx : Int) :
    Calls Try.prog 33 #[.pointer (some ⟨g, 0, none⟩), .agg #[.int .i64 22, .int .i64 a, .int .i64 b, .int .i64 c, .int .i64 n], .int .i64 nx] wr fun x w' => x = .returned (.tuple #[]) ∧ Has B w w' (Star (Mc g { cx with pc := nx } s (⟨4, n, 0, 0, 0⟩)) (Star (Sp s L) Y)) := by
  have M0 := Lib.hid (h.newcel 30 #[.int .i64 22, .int .i64 a, .int .i64 b, .int .i64 c, .int .i64 n]).swap
  have f0 : (wr.alloc (.cells #[.int .i64 22, .int .i64 a, .int .i64 b, .int .i64 c, .int .i64 n] 30)).frozen? ⟨g, 0, none⟩ = false := M0.out.mblk.free 0
  have g0 : (wr.alloc (.cells #[.int .i64 22, .int .i64 a, .int .i64 b, .int .i64 c, .int .i64 n] 30)).cell? ⟨g, 0, none⟩ = some (.int .i64 cx.pc) := by rw [M0.out.mblk.cell]; rfl
  have M1 := Lib.hid (M0.out.mpc nx)
  clear h M0
  go_enter Try.func33, Try.ntmps33
  go_upto_region 2 with (fail)
  obtain ⟨W, hW⟩ : ∃ W, (wr.alloc (.cells #[.int .i64 22, .int .i64 a, .int .i64 b, .int .i64 c, .int .i64 n] 30)).setCell ⟨g, 0, none⟩ (.int .i64 nx) = W := ⟨_, rfl⟩
  obtain ⟨q, hq⟩ : ∃ q, wr.heap.size = q := ⟨_, rfl⟩
  rw [hW, hq] at M1
  simp only [hW, hq]
  have i0 : W.cell? ⟨q, 0, none⟩ = some (.int .i64 22) := by rw [M1.out.swap.cel.cell]; rfl
  have i1 : W.cell? ⟨q, 1, none⟩ = some (.int .i64 a) := by rw [M1.out.swap.cel.cell]; rfl
  have i2 : W.cell? ⟨q, 2, none⟩ = some (.int .i64 b) := by rw [M1.out.swap.cel.cell]; rfl
  have i3 : W.cell? ⟨q, 3, none⟩ = some (.int .i64 c) := by rw [M1.out.swap.cel.cell]; rfl
  have i4 : W.cell? ⟨q, 4, none⟩ = some (.int .i64 n) := by rw [M1.out.swap.cel.cell]; rfl
  have ra : W.cell? ⟨g, 2 + a, none⟩ = some (.int .i64 (cx.r a)) := by rw [M1.out.mblk.cell]; exact mc_reg _ _ _ ha
  have rb : W.cell? ⟨g, 2 + b, none⟩ = some (.int .i64 (cx.r b)) := by rw [M1.out.mblk.cell]; exact mc_reg _ _ _ hb
  have rc : W.cell? ⟨g, 2 + c, none⟩ = some (.int .i64 (cx.r c)) := by rw [M1.out.mblk.cell]; exact mc_reg _ _ _ hc
  have rpc : W.cell? ⟨g, 0, none⟩ = some (.int .i64 nx) := by rw [M1.out.mblk.cell]; rfl
  have r15 : W.cell? ⟨g, 17, none⟩ = some (.int .i64 (cx.r 15)) := by rw [M1.out.mblk.cell]; rfl
  have rm : W.cell? ⟨g, 18, none⟩ = some (.pointer (some ⟨s, 0, none⟩)) := by rw [M1.out.mblk.cell]; rfl
  have rp : W.cell? ⟨g, 1, none⟩ = some (.int .i64 cx.tp) := by rw [M1.out.mblk.cell]; rfl
  have fz : Hid (∀ k, W.frozen? ⟨g, k, none⟩ = false) := Lib.hid (fun k => M1.out.mblk.free k)
  have na0 : (0 : Int) ≤ (a : Int) := by omega
  have na1 : (a : Int) < 16 := by omega
  have nb0 : (0 : Int) ≤ (b : Int) := by omega
  have nb1 : (b : Int) < 16 := by omega
  have nc0 : (0 : Int) ≤ (c : Int) := by omega
  have nc1 : (c : Int) < 16 := by omega
  clear f0 g0 hW hq
  have v19 : W.cell? ⟨g, 19, none⟩ = some (.int .i64 0) := by rw [M1.out.mblk.cell]; rfl
  have f19 : W.frozen? ⟨g, 19, none⟩ = false := M1.out.mblk.free 19
  have v20 : W.cell? ⟨g, 20, none⟩ = some (.int .i64 0) := by rw [M1.out.mblk.cell]; rfl
  have f20 : W.frozen? ⟨g, 20, none⟩ = false := M1.out.mblk.free 20
  have v21 : W.cell? ⟨g, 21, none⟩ = some (.int .i64 0) := by rw [M1.out.mblk.cell]; rfl
  have f21 : W.frozen? ⟨g, 21, none⟩ = false := M1.out.mblk.free 21
  have v22 : W.cell? ⟨g, 22, none⟩ = some (.int .i64 0) := by rw [M1.out.mblk.cell]; rfl
  have f22 : W.frozen? ⟨g, 22, none⟩ = false := M1.out.mblk.free 22
  have v23 : W.cell? ⟨g, 23, none⟩ = some (.int .i64 0) := by rw [M1.out.mblk.cell]; rfl
  have f23 : W.frozen? ⟨g, 23, none⟩ = false := M1.out.mblk.free 23
  have M3 := Lib.hid (M1.out.mev (⟨4, n, 0, 0, 0⟩)).swap.right
  go_wp2
  go_end0
  exact ⟨rfl, M3.out⟩
end
end Go.Proofs.Ytkpaeogjefjbfaa
