/-
  Layer 6: what an instruction does: the program's act, what reckons.
  Conditions: none. (My own text.)
-/
import Derived.Test.YtkpaeogjefjbfaaCpg
import Derived.StillTailTactics
import Derived.Deep.RegionLaw
import Derived.Deep.RegionWith
import Derived.Deep.RegionHeld3
namespace Go.Proofs.Ytkpaeogjefjbfaa
open Go.RowKit Spm
set_option linter.unusedVariables false
set_option linter.unusedSimpArgs false

section
variable {B : Nat} {w wr w' : World} {g s : Nat} {cx : Ctx} {L : List Rg} {Y : Res}
set_option maxRecDepth 100000 in
set_option maxHeartbeats 2000000 in
theorem act_kadd [hY : Fr Y] (h : Has B w wr (Star (Mc g cx s ev0) (Star (Sp s L) Y))) {a b c : Nat} (ha : a < 16) (hb : b < 16) (hc : c < 16) (n nx : Int) :
    Calls Try.prog 33 #[.pointer (some ⟨g, 0, none⟩), .agg #[.int .i64 3, .int .i64 a, .int .i64 b, .int .i64 c, .int .i64 n], .int .i64 nx] wr fun x w' => x = .returned (.tuple #[]) ∧ Has B w w' (Star (Mc g { cx with pc := nx, r := upd cx.r a (wrap64 (cx.r b + cx.r c)) } s ev0) (Star (Sp s L) Y)) := by
  have M0 := Lib.hid (h.newcel 30 #[.int .i64 3, .int .i64 a, .int .i64 b, .int .i64 c, .int .i64 n]).swap
  have f0 : (wr.alloc (.cells #[.int .i64 3, .int .i64 a, .int .i64 b, .int .i64 c, .int .i64 n] 30)).frozen? ⟨g, 0, none⟩ = false := M0.out.mblk.free 0
  have g0 : (wr.alloc (.cells #[.int .i64 3, .int .i64 a, .int .i64 b, .int .i64 c, .int .i64 n] 30)).cell? ⟨g, 0, none⟩ = some (.int .i64 cx.pc) := by rw [M0.out.mblk.cell]; rfl
  have M1 := Lib.hid (M0.out.mpc nx)
  clear h M0
  have CR := Lib.hid (fun (w2 : World) (q2 : Nat) (m : Has B w w2 (Star (Mc g { cx with pc := nx } s ev0) (Star (Cel q2 30 #[.int .i64 3, .int .i64 a, .int .i64 b, .int .i64 c, .int .i64 n]) (Star (Sp s L) Y)))) => reck_add m ha hb hc n)
  go_enter Try.func33, Try.ntmps33
  go_upto_region 2 with (fail)
  obtain ⟨W, hW⟩ : ∃ W, (wr.alloc (.cells #[.int .i64 3, .int .i64 a, .int .i64 b, .int .i64 c, .int .i64 n] 30)).setCell ⟨g, 0, none⟩ (.int .i64 nx) = W := ⟨_, rfl⟩
  obtain ⟨q, hq⟩ : ∃ q, wr.heap.size = q := ⟨_, rfl⟩
  rw [hW, hq] at M1
  simp only [hW, hq]
  have i0 : W.cell? ⟨q, 0, none⟩ = some (.int .i64 3) := by rw [M1.out.swap.cel.cell]; rfl
  have i1 : W.cell? ⟨q, 1, none⟩ = some (.int .i64 a) := by rw [M1.out.swap.cel.cell]; rfl
  have i2 : W.cell? ⟨q, 2, none⟩ = some (.int .i64 b) := by rw [M1.out.swap.cel.cell]; rfl
  have i3 : W.cell? ⟨q, 3, none⟩ = some (.int .i64 c) := by rw [M1.out.swap.cel.cell]; rfl
  have i4 : W.cell? ⟨q, 4, none⟩ = some (.int .i64 n) := by rw [M1.out.swap.cel.cell]; rfl
  have ra : W.cell? ⟨g, 2 + a, none⟩ = some (.int .i64 (cx.r a)) := by rw [M1.out.mblk.cell]; exact mc_reg _ _ _ ha
  have rb : W.cell? ⟨g, 2 + b, none⟩ = some (.int .i64 (cx.r b)) := by rw [M1.out.mblk.cell]; exact mc_reg _ _ _ hb
  have rc : W.cell? ⟨g, 2 + c, none⟩ = some (.int .i64 (cx.r c)) := by rw [M1.out.mblk.cell]; exact mc_reg _ _ _ hc
  have rpc : W.cell? ⟨g, 0, none⟩ = some (.int .i64 nx) := by rw [M1.out.mblk.cell]; rfl
  have r15 : W.cell? ⟨g, 17, none⟩ = some (.int .i64 (cx.r 15)) := by rw [M1.out.mblk.cell]; rfl
  have rm : W.cell? ⟨g, 18, none⟩ = some (.pointer (some ⟨s, 0, none⟩)) := by rw [M1.out.mblk.cell]; rfl
  have rp : W.cell? ⟨g, 1, none⟩ = some (.int .i64 cx.tp) := by rw [M1.out.mblk.cell]; rfl
  have fz : Hid (∀ k, W.frozen? ⟨g, k, none⟩ = false) := Lib.hid (fun k => M1.out.mblk.free k)
  have na0 : (0 : Int) ≤ (a : Int) := by omega
  have na1 : (a : Int) < 16 := by omega
  have nb0 : (0 : Int) ≤ (b : Int) := by omega
  have nb1 : (b : Int) < 16 := by omega
  have nc0 : (0 : Int) ≤ (c : Int) := by omega
  have nc1 : (c : Int) < 16 := by omega
  clear f0 g0 hW hq
  have C1 := Lib.hid (CR.out _ _ M1.out)
  clear CR
  go_wp2_with fail
  refine (C1.out).mono ?_
  rintro y w3 ⟨rfl, m3⟩
  have M3 := Lib.hid m3.swap.right; clear m3 C1
  go_wp2
  go_end0
  exact ⟨rfl, M3.out⟩

set_option maxRecDepth 100000 in
set_option maxHeartbeats 2000000 in
theorem act_ksub [hY : Fr Y] (h : Has B w wr (Star (Mc g cx s ev0) (Star (Sp s L) Y))) {a b c : Nat} (ha : a < 16) (hb : b < 16) (hc : c < 16) (n nx : Int) :
    Calls Try.prog 33 #[.pointer (some ⟨g, 0, none⟩), .agg #[.int .i64 4, .int .i64 a, .int .i64 b, .int .i64 c, .int .i64 n], .int .i64 nx] wr fun x w' => x = .returned (.tuple #[]) ∧ Has B w w' (Star (Mc g { cx with pc := nx, r := upd cx.r a (wrap64 (cx.r b - cx.r c)) } s ev0) (Star (Sp s L) Y)) := by
  have M0 := Lib.hid (h.newcel 30 #[.int .i64 4, .int .i64 a, .int .i64 b, .int .i64 c, .int .i64 n]).swap
  have f0 : (wr.alloc (.cells #[.int .i64 4, .int .i64 a, .int .i64 b, .int .i64 c, .int .i64 n] 30)).frozen? ⟨g, 0, none⟩ = false := M0.out.mblk.free 0
  have g0 : (wr.alloc (.cells #[.int .i64 4, .int .i64 a, .int .i64 b, .int .i64 c, .int .i64 n] 30)).cell? ⟨g, 0, none⟩ = some (.int .i64 cx.pc) := by rw [M0.out.mblk.cell]; rfl
  have M1 := Lib.hid (M0.out.mpc nx)
  clear h M0
  have CR := Lib.hid (fun (w2 : World) (q2 : Nat) (m : Has B w w2 (Star (Mc g { cx with pc := nx } s ev0) (Star (Cel q2 30 #[.int .i64 4, .int .i64 a, .int .i64 b, .int .i64 c, .int .i64 n]) (Star (Sp s L) Y)))) => reck_sub m ha hb hc n)
  go_enter Try.func33, Try.ntmps33
  go_upto_region 2 with (fail)
  obtain ⟨W, hW⟩ : ∃ W, (wr.alloc (.cells #[.int .i64 4, .int .i64 a, .int .i64 b, .int .i64 c, .int .i64 n] 30)).setCell ⟨g, 0, none⟩ (.int .i64 nx) = W := ⟨_, rfl⟩
  obtain ⟨q, hq⟩ : ∃ q, wr.heap.size = q := ⟨_, rfl⟩
  rw [hW, hq] at M1
  simp only [hW, hq]
  have i0 : W.cell? ⟨q, 0, none⟩ = some (.int .i64 4) := by rw [M1.out.swap.cel.cell]; rfl
  have i1 : W.cell? ⟨q, 1, none⟩ = some (.int .i64 a) := by rw [M1.out.swap.cel.cell]; rfl
  have i2 : W.cell? ⟨q, 2, none⟩ = some (.int .i64 b) := by rw [M1.out.swap.cel.cell]; rfl
  have i3 : W.cell? ⟨q, 3, none⟩ = some (.int .i64 c) := by rw [M1.out.swap.cel.cell]; rfl
  have i4 : W.cell? ⟨q, 4, none⟩ = some (.int .i64 n) := by rw [M1.out.swap.cel.cell]; rfl
  have ra : W.cell? ⟨g, 2 + a, none⟩ = some (.int .i64 (cx.r a)) := by rw [M1.out.mblk.cell]; exact mc_reg _ _ _ ha
  have rb : W.cell? ⟨g, 2 + b, none⟩ = some (.int .i64 (cx.r b)) := by rw [M1.out.mblk.cell]; exact mc_reg _ _ _ hb
  have rc : W.cell? ⟨g, 2 + c, none⟩ = some (.int .i64 (cx.r c)) := by rw [M1.out.mblk.cell]; exact mc_reg _ _ _ hc
  have rpc : W.cell? ⟨g, 0, none⟩ = some (.int .i64 nx) := by rw [M1.out.mblk.cell]; rfl
  have r15 : W.cell? ⟨g, 17, none⟩ = some (.int .i64 (cx.r 15)) := by rw [M1.out.mblk.cell]; rfl
  have rm : W.cell? ⟨g, 18, none⟩ = some (.pointer (some ⟨s, 0, none⟩)) := by rw [M1.out.mblk.cell]; rfl
  have rp : W.cell? ⟨g, 1, none⟩ = some (.int .i64 cx.tp) := by rw [M1.out.mblk.cell]; rfl
  have fz : Hid (∀ k, W.frozen? ⟨g, k, none⟩ = false) := Lib.hid (fun k => M1.out.mblk.free k)
  have na0 : (0 : Int) ≤ (a : Int) := by omega
  have na1 : (a : Int) < 16 := by omega
  have nb0 : (0 : Int) ≤ (b : Int) := by omega
  have nb1 : (b : Int) < 16 := by omega
  have nc0 : (0 : Int) ≤ (c : Int) := by omega
  have nc1 : (c : Int) < 16 := by omega
  clear f0 g0 hW hq
  have C1 := Lib.hid (CR.out _ _ M1.out)
  clear CR
  go_wp2_with fail
  refine (C1.out).mono ?_
  rintro y w3 ⟨rfl, m3⟩
  have M3 := Lib.hid m3.swap.right; clear m3 C1
  go_wp2
  go_end0
  exact ⟨rfl, M3.out⟩

set_option maxRecDepth 100000 in
set_option maxHeartbeats 2000000 in
theorem act_kmul [hY : Fr Y] (h : Has B w wr (Star (Mc g cx s ev0) (Star (Sp s L) Y))) {a b c : Nat} (ha : a < 16) (hb : b < 16) (hc : c < 16) (n nx : Int) :
    Calls Try.prog 33 #[.pointer (some ⟨g, 0, none⟩), .agg #[.int .i64 5, .int .i64 a, .int .i64 b, .int .i64 c, .int .i64 n], .int .i64 nx] wr fun x w' => x = .returned (.tuple #[]) ∧ Has B w w' (Star (Mc g { cx with pc := nx, r := upd cx.r a (wrap64 (cx.r b * cx.r c)) } s ev0) (Star (Sp s L) Y)) := by
  have M0 := Lib.hid (h.newcel 30 #[.int .i64 5, .int .i64 a, .int .i64 b, .int .i64 c, .int .i64 n]).swap
  have f0 : (wr.alloc (.cells #[.int .i64 5, .int .i64 a, .int .i64 b, .int .i64 c, .int .i64 n] 30)).frozen? ⟨g, 0, none⟩ = false := M0.out.mblk.free 0
  have g0 : (wr.alloc (.cells #[.int .i64 5, .int .i64 a, .int .i64 b, .int .i64 c, .int .i64 n] 30)).cell? ⟨g, 0, none⟩ = some (.int .i64 cx.pc) := by rw [M0.out.mblk.cell]; rfl
  have M1 := Lib.hid (M0.out.mpc nx)
  clear h M0
  have CR := Lib.hid (fun (w2 : World) (q2 : Nat) (m : Has B w w2 (Star (Mc g { cx with pc := nx } s ev0) (Star (Cel q2 30 #[.int .i64 5, .int .i64 a, .int .i64 b, .int .i64 c, .int .i64 n]) (Star (Sp s L) Y)))) => reck_mul m ha hb hc n)
  go_enter Try.func33, Try.ntmps33
  go_upto_region 2 with (fail)
  obtain ⟨W, hW⟩ : ∃ W, (wr.alloc (.cells #[.int .i64 5, .int .i64 a, .int .i64 b, .int .i64 c, .int .i64 n] 30)).setCell ⟨g, 0, none⟩ (.int .i64 nx) = W := ⟨_, rfl⟩
  obtain ⟨q, hq⟩ : ∃ q, wr.heap.size = q := ⟨_, rfl⟩
  rw [hW, hq] at M1
  simp only [hW, hq]
  have i0 : W.cell? ⟨q, 0, none⟩ = some (.int .i64 5) := by rw [M1.out.swap.cel.cell]; rfl
  have i1 : W.cell? ⟨q, 1, none⟩ = some (.int .i64 a) := by rw [M1.out.swap.cel.cell]; rfl
  have i2 : W.cell? ⟨q, 2, none⟩ = some (.int .i64 b) := by rw [M1.out.swap.cel.cell]; rfl
  have i3 : W.cell? ⟨q, 3, none⟩ = some (.int .i64 c) := by rw [M1.out.swap.cel.cell]; rfl
  have i4 : W.cell? ⟨q, 4, none⟩ = some (.int .i64 n) := by rw [M1.out.swap.cel.cell]; rfl
  have ra : W.cell? ⟨g, 2 + a, none⟩ = some (.int .i64 (cx.r a)) := by rw [M1.out.mblk.cell]; exact mc_reg _ _ _ ha
  have rb : W.cell? ⟨g, 2 + b, none⟩ = some (.int .i64 (cx.r b)) := by rw [M1.out.mblk.cell]; exact mc_reg _ _ _ hb
  have rc : W.cell? ⟨g, 2 + c, none⟩ = some (.int .i64 (cx.r c)) := by rw [M1.out.mblk.cell]; exact mc_reg _ _ _ hc
  have rpc : W.cell? ⟨g, 0, none⟩ = some (.int .i64 nx) := by rw [M1.out.mblk.cell]; rfl
  have r15 : W.cell? ⟨g, 17, none⟩ = some (.int .i64 (cx.r 15)) := by rw [M1.out.mblk.cell]; rfl
  have rm : W.cell? ⟨g, 18, none⟩ = some (.pointer (some ⟨s, 0, none⟩)) := by rw [M1.out.mblk.cell]; rfl
  have rp : W.cell? ⟨g, 1, none⟩ = some (.int .i64 cx.tp) := by rw [M1.out.mblk.cell]; rfl
  have fz : Hid (∀ k, W.frozen? ⟨g, k, none⟩ = false) := Lib.hid (fun k => M1.out.mblk.free k)
  have na0 : (0 : Int) ≤ (a : Int) := by omega
  have na1 : (a : Int) < 16 := by omega
  have nb0 : (0 : Int) ≤ (b : Int) := by omega
  have nb1 : (b : Int) < 16 := by omega
  have nc0 : (0 : Int) ≤ (c : Int) := by omega
  have nc1 : (c : Int) < 16 := by omega
  clear f0 g0 hW hq
  have C1 := Lib.hid (CR.out _ _ M1.out)
  clear CR
  go_wp2_with fail
  refine (C1.out).mono ?_
  rintro y w3 ⟨rfl, m3⟩
  have M3 := Lib.hid m3.swap.right; clear m3 C1
  go_wp2
  go_end0
  exact ⟨rfl, M3.out⟩

set_option maxRecDepth 100000 in
set_option maxHeartbeats 2000000 in
theorem act_kless1 [hY : Fr Y] (h : Has B w wr (Star (Mc g cx s ev0) (Star (Sp s L) Y))) {a b c : Nat} (ha : a < 16) (hb : b < 16) (hc : c < 16) (n nx : Int) (hz : cx.r b < cx.r c) :
    Calls Try.prog 33 #[.pointer (some ⟨g, 0, none⟩), .agg #[.int .i64 7, .int .i64 a, .int .i64 b, .int .i64 c, .int .i64 n], .int .i64 nx] wr fun x w' => x = .returned (.tuple #[]) ∧ Has B w w' (Star (Mc g { cx with pc := nx, r := upd cx.r a (1) } s ev0) (Star (Sp s L) Y)) := by
  have M0 := Lib.hid (h.newcel 30 #[.int .i64 7, .int .i64 a, .int .i64 b, .int .i64 c, .int .i64 n]).swap
  have f0 : (wr.alloc (.cells #[.int .i64 7, .int .i64 a, .int .i64 b, .int .i64 c, .int .i64 n] 30)).frozen? ⟨g, 0, none⟩ = false := M0.out.mblk.free 0
  have g0 : (wr.alloc (.cells #[.int .i64 7, .int .i64 a, .int .i64 b, .int .i64 c, .int .i64 n] 30)).cell? ⟨g, 0, none⟩ = some (.int .i64 cx.pc) := by rw [M0.out.mblk.cell]; rfl
  have M1 := Lib.hid (M0.out.mpc nx)
  clear h M0
  have CR := Lib.hid (fun (w2 : World) (q2 : Nat) (m : Has B w w2 (Star (Mc g { cx with pc := nx } s ev0) (Star (Cel q2 30 #[.int .i64 7, .int .i64 a, .int .i64 b, .int .i64 c, .int .i64 n]) (Star (Sp s L) Y)))) => reck_less1 m ha hb hc n hz)
  clear hz
  go_enter Try.func33, Try.ntmps33
  go_upto_region 2 with (fail)
  obtain ⟨W, hW⟩ : ∃ W, (wr.alloc (.cells #[.int .i64 7, .int .i64 a, .int .i64 b, .int .i64 c, .int .i64 n] 30)).setCell ⟨g, 0, none⟩ (.int .i64 nx) = W := ⟨_, rfl⟩
  obtain ⟨q, hq⟩ : ∃ q, wr.heap.size = q := ⟨_, rfl⟩
  rw [hW, hq] at M1
  simp only [hW, hq]
  have i0 : W.cell? ⟨q, 0, none⟩ = some (.int .i64 7) := by rw [M1.out.swap.cel.cell]; rfl
  have i1 : W.cell? ⟨q, 1, none⟩ = some (.int .i64 a) := by rw [M1.out.swap.cel.cell]; rfl
  have i2 : W.cell? ⟨q, 2, none⟩ = some (.int .i64 b) := by rw [M1.out.swap.cel.cell]; rfl
  have i3 : W.cell? ⟨q, 3, none⟩ = some (.int .i64 c) := by rw [M1.out.swap.cel.cell]; rfl
  have i4 : W.cell? ⟨q, 4, none⟩ = some (.int .i64 n) := by rw [M1.out.swap.cel.cell]; rfl
  have ra : W.cell? ⟨g, 2 + a, none⟩ = some (.int .i64 (cx.r a)) := by rw [M1.out.mblk.cell]; exact mc_reg _ _ _ ha
  have rb : W.cell? ⟨g, 2 + b, none⟩ = some (.int .i64 (cx.r b)) := by rw [M1.out.mblk.cell]; exact mc_reg _ _ _ hb
  have rc : W.cell? ⟨g, 2 + c, none⟩ = some (.int .i64 (cx.r c)) := by rw [M1.out.mblk.cell]; exact mc_reg _ _ _ hc
  have rpc : W.cell? ⟨g, 0, none⟩ = some (.int .i64 nx) := by rw [M1.out.mblk.cell]; rfl
  have r15 : W.cell? ⟨g, 17, none⟩ = some (.int .i64 (cx.r 15)) := by rw [M1.out.mblk.cell]; rfl
  have rm : W.cell? ⟨g, 18, none⟩ = some (.pointer (some ⟨s, 0, none⟩)) := by rw [M1.out.mblk.cell]; rfl
  have rp : W.cell? ⟨g, 1, none⟩ = some (.int .i64 cx.tp) := by rw [M1.out.mblk.cell]; rfl
  have fz : Hid (∀ k, W.frozen? ⟨g, k, none⟩ = false) := Lib.hid (fun k => M1.out.mblk.free k)
  have na0 : (0 : Int) ≤ (a : Int) := by omega
  have na1 : (a : Int) < 16 := by omega
  have nb0 : (0 : Int) ≤ (b : Int) := by omega
  have nb1 : (b : Int) < 16 := by omega
  have nc0 : (0 : Int) ≤ (c : Int) := by omega
  have nc1 : (c : Int) < 16 := by omega
  clear f0 g0 hW hq
  have C1 := Lib.hid (CR.out _ _ M1.out)
  clear CR
  go_wp2_with fail
  refine (C1.out).mono ?_
  rintro y w3 ⟨rfl, m3⟩
  have M3 := Lib.hid m3.swap.right; clear m3 C1
  go_wp2
  go_end0
  exact ⟨rfl, M3.out⟩

set_option maxRecDepth 100000 in
set_option maxHeartbeats 2000000 in
theorem act_kless0 [hY : Fr Y] (h : Has B w wr (Star (Mc g cx s ev0) (Star (Sp s L) Y))) {a b c : Nat} (ha : a < 16) (hb : b < 16) (hc : c < 16) (n nx : Int) (hz : ¬ cx.r b < cx.r c) :
    Calls Try.prog 33 #[.pointer (some ⟨g, 0, none⟩), .agg #[.int .i64 7, .int .i64 a, .int .i64 b, .int .i64 c, .int .i64 n], .int .i64 nx] wr fun x w' => x = .returned (.tuple #[]) ∧ Has B w w' (Star (Mc g { cx with pc := nx, r := upd cx.r a (0) } s ev0) (Star (Sp s L) Y)) := by
  have M0 := Lib.hid (h.newcel 30 #[.int .i64 7, .int .i64 a, .int .i64 b, .int .i64 c, .int .i64 n]).swap
  have f0 : (wr.alloc (.cells #[.int .i64 7, .int .i64 a, .int .i64 b, .int .i64 c, .int .i64 n] 30)).frozen? ⟨g, 0, none⟩ = false := M0.out.mblk.free 0
  have g0 : (wr.alloc (.cells #[.int .i64 7, .int .i64 a, .int .i64 b, .int .i64 c, .int .i64 n] 30)).cell? ⟨g, 0, none⟩ = some (.int .i64 cx.pc) := by rw [M0.out.mblk.cell]; rfl
  have M1 := Lib.hid (M0.out.mpc nx)
  clear h M0
  have CR := Lib.hid (fun (w2 : World) (q2 : Nat) (m : Has B w w2 (Star (Mc g { cx with pc := nx } s ev0) (Star (Cel q2 30 #[.int .i64 7, .int .i64 a, .int .i64 b, .int .i64 c, .int .i64 n]) (Star (Sp s L) Y)))) => reck_less0 m ha hb hc n hz)
  clear hz
  go_enter Try.func33, Try.ntmps33
  go_upto_region 2 with (fail)
  obtain ⟨W, hW⟩ : ∃ W, (wr.alloc (.cells #[.int .i64 7, .int .i64 a, .int .i64 b, .int .i64 c, .int .i64 n] 30)).setCell ⟨g, 0, none⟩ (.int .i64 nx) = W := ⟨_, rfl⟩
  obtain ⟨q, hq⟩ : ∃ q, wr.heap.size = q := ⟨_, rfl⟩
  rw [hW, hq] at M1
  simp only [hW, hq]
  have i0 : W.cell? ⟨q, 0, none⟩ = some (.int .i64 7) := by rw [M1.out.swap.cel.cell]; rfl
  have i1 : W.cell? ⟨q, 1, none⟩ = some (.int .i64 a) := by rw [M1.out.swap.cel.cell]; rfl
  have i2 : W.cell? ⟨q, 2, none⟩ = some (.int .i64 b) := by rw [M1.out.swap.cel.cell]; rfl
  have i3 : W.cell? ⟨q, 3, none⟩ = some (.int .i64 c) := by rw [M1.out.swap.cel.cell]; rfl
  have i4 : W.cell? ⟨q, 4, none⟩ = some (.int .i64 n) := by rw [M1.out.swap.cel.cell]; rfl
  have ra : W.cell? ⟨g, 2 + a, none⟩ = some (.int .i64 (cx.r a)) := by rw [M1.out.mblk.cell]; exact mc_reg _ _ _ ha
  have rb : W.cell? ⟨g, 2 + b, none⟩ = some (.int .i64 (cx.r b)) := by rw [M1.out.mblk.cell]; exact mc_reg _ _ _ hb
  have rc : W.cell? ⟨g, 2 + c, none⟩ = some (.int .i64 (cx.r c)) := by rw [M1.out.mblk.cell]; exact mc_reg _ _ _ hc
  have rpc : W.cell? ⟨g, 0, none⟩ = some (.int .i64 nx) := by rw [M1.out.mblk.cell]; rfl
  have r15 : W.cell? ⟨g, 17, none⟩ = some (.int .i64 (cx.r 15)) := by rw [M1.out.mblk.cell]; rfl
  have rm : W.cell? ⟨g, 18, none⟩ = some (.pointer (some ⟨s, 0, none⟩)) := by rw [M1.out.mblk.cell]; rfl
  have rp : W.cell? ⟨g, 1, none⟩ = some (.int .i64 cx.tp) := by rw [M1.out.mblk.cell]; rfl
  have fz : Hid (∀ k, W.frozen? ⟨g, k, none⟩ = false) := Lib.hid (fun k => M1.out.mblk.free k)
  have na0 : (0 : Int) ≤ (a : Int) := by omega
  have na1 : (a : Int) < 16 := by omega
  have nb0 : (0 : Int) ≤ (b : Int) := by omega
  have nb1 : (b : Int) < 16 := by omega
  have nc0 : (0 : Int) ≤ (c : Int) := by omega
  have nc1 : (c : Int) < 16 := by omega
  clear f0 g0 hW hq
  have C1 := Lib.hid (CR.out _ _ M1.out)
  clear CR
  go_wp2_with fail
  refine (C1.out).mono ?_
  rintro y w3 ⟨rfl, m3⟩
  have M3 := Lib.hid m3.swap.right; clear m3 C1
  go_wp2
  go_end0
  exact ⟨rfl, M3.out⟩

set_option maxRecDepth 100000 in
set_option maxHeartbeats 2000000 in
theorem act_ksame1 [hY : Fr Y] (h : Has B w wr (Star (Mc g cx s ev0) (Star (Sp s L) Y))) {a b c : Nat} (ha : a < 16) (hb : b < 16) (hc : c < 16) (n nx : Int) (hz : cx.r b = cx.r c) :
    Calls Try.prog 33 #[.pointer (some ⟨g, 0, none⟩), .agg #[.int .i64 8, .int .i64 a, .int .i64 b, .int .i64 c, .int .i64 n], .int .i64 nx] wr fun x w' => x = .returned (.tuple #[]) ∧ Has B w w' (Star (Mc g { cx with pc := nx, r := upd cx.r a (1) } s ev0) (Star (Sp s L) Y)) := by
  have M0 := Lib.hid (h.newcel 30 #[.int .i64 8, .int .i64 a, .int .i64 b, .int .i64 c, .int .i64 n]).swap
  have f0 : (wr.alloc (.cells #[.int .i64 8, .int .i64 a, .int .i64 b, .int .i64 c, .int .i64 n] 30)).frozen? ⟨g, 0, none⟩ = false := M0.out.mblk.free 0
  have g0 : (wr.alloc (.cells #[.int .i64 8, .int .i64 a, .int .i64 b, .int .i64 c, .int .i64 n] 30)).cell? ⟨g, 0, none⟩ = some (.int .i64 cx.pc) := by rw [M0.out.mblk.cell]; rfl
  have M1 := Lib.hid (M0.out.mpc nx)
  clear h M0
  have CR := Lib.hid (fun (w2 : World) (q2 : Nat) (m : Has B w w2 (Star (Mc g { cx with pc := nx } s ev0) (Star (Cel q2 30 #[.int .i64 8, .int .i64 a, .int .i64 b, .int .i64 c, .int .i64 n]) (Star (Sp s L) Y)))) => reck_same1 m ha hb hc n hz)
  clear hz
  go_enter Try.func33, Try.ntmps33
  go_upto_region 2 with (fail)
  obtain ⟨W, hW⟩ : ∃ W, (wr.alloc (.cells #[.int .i64 8, .int .i64 a, .int .i64 b, .int .i64 c, .int .i64 n] 30)).setCell ⟨g, 0, none⟩ (.int .i64 nx) = W := ⟨_, rfl⟩
  obtain ⟨q, hq⟩ : ∃ q, wr.heap.size = q := ⟨_, rfl⟩
  rw [hW, hq] at M1
  simp only [hW, hq]
  have i0 : W.cell? ⟨q, 0, none⟩ = some (.int .i64 8) := by rw [M1.out.swap.cel.cell]; rfl
  have i1 : W.cell? ⟨q, 1, none⟩ = some (.int .i64 a) := by rw [M1.out.swap.cel.cell]; rfl
  have i2 : W.cell? ⟨q, 2, none⟩ = some (.int .i64 b) := by rw [M1.out.swap.cel.cell]; rfl
  have i3 : W.cell? ⟨q, 3, none⟩ = some (.int .i64 c) := by rw [M1.out.swap.cel.cell]; rfl
  have i4 : W.cell? ⟨q, 4, none⟩ = some (.int .i64 n) := by rw [M1.out.swap.cel.cell]; rfl
  have ra : W.cell? ⟨g, 2 + a, none⟩ = some (.int .i64 (cx.r a)) := by rw [M1.out.mblk.cell]; exact mc_reg _ _ _ ha
  have rb : W.cell? ⟨g, 2 + b, none⟩ = some (.int .i64 (cx.r b)) := by rw [M1.out.mblk.cell]; exact mc_reg _ _ _ hb
  have rc : W.cell? ⟨g, 2 + c, none⟩ = some (.int .i64 (cx.r c)) := by rw [M1.out.mblk.cell]; exact mc_reg _ _ _ hc
  have rpc : W.cell? ⟨g, 0, none⟩ = some (.int .i64 nx) := by rw [M1.out.mblk.cell]; rfl
  have r15 : W.cell? ⟨g, 17, none⟩ = some (.int .i64 (cx.r 15)) := by rw [M1.out.mblk.cell]; rfl
  have rm : W.cell? ⟨g, 18, none⟩ = some (.pointer (some ⟨s, 0, none⟩)) := by rw [M1.out.mblk.cell]; rfl
  have rp : W.cell? ⟨g, 1, none⟩ = some (.int .i64 cx.tp) := by rw [M1.out.mblk.cell]; rfl
  have fz : Hid (∀ k, W.frozen? ⟨g, k, none⟩ = false) := Lib.hid (fun k => M1.out.mblk.free k)
  have na0 : (0 : Int) ≤ (a : Int) := by omega
  have na1 : (a : Int) < 16 := by omega
  have nb0 : (0 : Int) ≤ (b : Int) := by omega
  have nb1 : (b : Int) < 16 := by omega
  have nc0 : (0 : Int) ≤ (c : Int) := by omega
  have nc1 : (c : Int) < 16 := by omega
  clear f0 g0 hW hq
  have C1 := Lib.hid (CR.out _ _ M1.out)
  clear CR
  go_wp2_with fail
  refine (C1.out).mono ?_
  rintro y w3 ⟨rfl, m3⟩
  have M3 := Lib.hid m3.swap.right; clear m3 C1
  go_wp2
  go_end0
  exact ⟨rfl, M3.out⟩

set_option maxRecDepth 100000 in
set_option maxHeartbeats 2000000 in
theorem act_ksame0 [hY : Fr Y] (h : Has B w wr (Star (Mc g cx s ev0) (Star (Sp s L) Y))) {a b c : Nat} (ha : a < 16) (hb : b < 16) (hc : c < 16) (n nx : Int) (hz : ¬ cx.r b = cx.r c) :
    Calls Try.prog 33 #[.pointer (some ⟨g, 0, none⟩), .agg #[.int .i64 8, .int .i64 a, .int .i64 b, .int .i64 c, .int .i64 n], .int .i64 nx] wr fun x w' => x = .returned (.tuple #[]) ∧ Has B w w' (Star (Mc g { cx with pc := nx, r := upd cx.r a (0) } s ev0) (Star (Sp s L) Y)) := by
  have M0 := Lib.hid (h.newcel 30 #[.int .i64 8, .int .i64 a, .int .i64 b, .int .i64 c, .int .i64 n]).swap
  have f0 : (wr.alloc (.cells #[.int .i64 8, .int .i64 a, .int .i64 b, .int .i64 c, .int .i64 n] 30)).frozen? ⟨g, 0, none⟩ = false := M0.out.mblk.free 0
  have g0 : (wr.alloc (.cells #[.int .i64 8, .int .i64 a, .int .i64 b, .int .i64 c, .int .i64 n] 30)).cell? ⟨g, 0, none⟩ = some (.int .i64 cx.pc) := by rw [M0.out.mblk.cell]; rfl
  have M1 := Lib.hid (M0.out.mpc nx)
  clear h M0
  have CR := Lib.hid (fun (w2 : World) (q2 : Nat) (m : Has B w w2 (Star (Mc g { cx with pc := nx } s ev0) (Star (Cel q2 30 #[.int .i64 8, .int .i64 a, .int .i64 b, .int .i64 c, .int .i64 n]) (Star (Sp s L) Y)))) => reck_same0 m ha hb hc n hz)
  clear hz
  go_enter Try.func33, Try.ntmps33
  go_upto_region 2 with (fail)
  obtain ⟨W, hW⟩ : ∃ W, (wr.alloc (.cells #[.int .i64 8, .int .i64 a, .int .i64 b, .int .i64 c, .int .i64 n] 30)).setCell ⟨g, 0, none⟩ (.int .i64 nx) = W := ⟨_, rfl⟩
  obtain ⟨q, hq⟩ : ∃ q, wr.heap.size = q := ⟨_, rfl⟩
  rw [hW, hq] at M1
  simp only [hW, hq]
  have i0 : W.cell? ⟨q, 0, none⟩ = some (.int .i64 8) := by rw [M1.out.swap.cel.cell]; rfl
  have i1 : W.cell? ⟨q, 1, none⟩ = some (.int .i64 a) := by rw [M1.out.swap.cel.cell]; rfl
  have i2 : W.cell? ⟨q, 2, none⟩ = some (.int .i64 b) := by rw [M1.out.swap.cel.cell]; rfl
  have i3 : W.cell? ⟨q, 3, none⟩ = some (.int .i64 c) := by rw [M1.out.swap.cel.cell]; rfl
  have i4 : W.cell? ⟨q, 4, none⟩ = some (.int .i64 n) := by rw [M1.out.swap.cel.cell]; rfl
  have ra : W.cell? ⟨g, 2 + a, none⟩ = some (.int .i64 (cx.r a)) := by rw [M1.out.mblk.cell]; exact mc_reg _ _ _ ha
  have rb : W.cell? ⟨g, 2 + b, none⟩ = some (.int .i64 (cx.r b)) := by rw [M1.out.mblk.cell]; exact mc_reg _ _ _ hb
  have rc : W.cell? ⟨g, 2 + c, none⟩ = some (.int .i64 (cx.r c)) := by rw [M1.out.mblk.cell]; exact mc_reg _ _ _ hc
  have rpc : W.cell? ⟨g, 0, none⟩ = some (.int .i64 nx) := by rw [M1.out.mblk.cell]; rfl
  have r15 : W.cell? ⟨g, 17, none⟩ = some (.int .i64 (cx.r 15)) := by rw [M1.out.mblk.cell]; rfl
  have rm : W.cell? ⟨g, 18, none⟩ = some (.pointer (some ⟨s, 0, none⟩)) := by rw [M1.out.mblk.cell]; rfl
  have rp : W.cell? ⟨g, 1, none⟩ = some (.int .i64 cx.tp) := by rw [M1.out.mblk.cell]; rfl
  have fz : Hid (∀ k, W.frozen? ⟨g, k, none⟩ = false) := Lib.hid (fun k => M1.out.mblk.free k)
  have na0 : (0 : Int) ≤ (a : Int) := by omega
  have na1 : (a : Int) < 16 := by omega
  have nb0 : (0 : Int) ≤ (b : Int) := by omega
  have nb1 : (b : Int) < 16 := by omega
  have nc0 : (0 : Int) ≤ (c : Int) := by omega
  have nc1 : (c : Int) < 16 := by omega
  clear f0 g0 hW hq
  have C1 := Lib.hid (CR.out _ _ M1.out)
  clear CR
  go_wp2_with fail
  refine (C1.out).mono ?_
  rintro y w3 ⟨rfl, m3⟩
  have M3 := Lib.hid m3.swap.right; clear m3 C1
  go_wp2
  go_end0
  exact ⟨rfl, M3.out⟩

set_option maxRecDepth 100000 in
set_option maxHeartbeats 2000000 in
theorem act_kdiv1 [hY : Fr Y] (h : Has B w wr (Star (Mc g cx s ev0) (Star (Sp s L) Y))) {a b c : Nat} (ha : a < 16) (hb : b < 16) (hc : c < 16) (n nx : Int) (hz : ¬ cx.r c = 0) :
    Calls Try.prog 33 #[.pointer (some ⟨g, 0, none⟩), .agg #[.int .i64 6, .int .i64 a, .int .i64 b, .int .i64 c, .int .i64 n], .int .i64 nx] wr fun x w' => x = .returned (.tuple #[]) ∧ Has B w w' (Star (Mc g { cx with pc := nx, r := upd cx.r a (wrap64 ((cx.r b).tdiv (cx.r c))) } s ev0) (Star (Sp s L) Y)) := by
  have M0 := Lib.hid (h.newcel 30 #[.int .i64 6, .int .i64 a, .int .i64 b, .int .i64 c, .int .i64 n]).swap
  have f0 : (wr.alloc (.cells #[.int .i64 6, .int .i64 a, .int .i64 b, .int .i64 c, .int .i64 n] 30)).frozen? ⟨g, 0, none⟩ = false := M0.out.mblk.free 0
  have g0 : (wr.alloc (.cells #[.int .i64 6, .int .i64 a, .int .i64 b, .int .i64 c, .int .i64 n] 30)).cell? ⟨g, 0, none⟩ = some (.int .i64 cx.pc) := by rw [M0.out.mblk.cell]; rfl
  have M1 := Lib.hid (M0.out.mpc nx)
  clear h M0
  have CR := Lib.hid (fun (w2 : World) (q2 : Nat) (m : Has B w w2 (Star (Mc g { cx with pc := nx } s ev0) (Star (Cel q2 30 #[.int .i64 6, .int .i64 a, .int .i64 b, .int .i64 c, .int .i64 n]) (Star (Sp s L) Y)))) => reck_div1 m ha hb hc n hz)
  clear hz
  go_enter Try.func33, Try.ntmps33
  go_upto_region 2 with (fail)
  obtain ⟨W, hW⟩ : ∃ W, (wr.alloc (.cells #[.int .i64 6, .int .i64 a, .int .i64 b, .int .i64 c, .int .i64 n] 30)).setCell ⟨g, 0, none⟩ (.int .i64 nx) = W := ⟨_, rfl⟩
  obtain ⟨q, hq⟩ : ∃ q, wr.heap.size = q := ⟨_, rfl⟩
  rw [hW, hq] at M1
  simp only [hW, hq]
  have i0 : W.cell? ⟨q, 0, none⟩ = some (.int .i64 6) := by rw [M1.out.swap.cel.cell]; rfl
  have i1 : W.cell? ⟨q, 1, none⟩ = some (.int .i64 a) := by rw [M1.out.swap.cel.cell]; rfl
  have i2 : W.cell? ⟨q, 2, none⟩ = some (.int .i64 b) := by rw [M1.out.swap.cel.cell]; rfl
  have i3 : W.cell? ⟨q, 3, none⟩ = some (.int .i64 c) := by rw [M1.out.swap.cel.cell]; rfl
  have i4 : W.cell? ⟨q, 4, none⟩ = some (.int .i64 n) := by rw [M1.out.swap.cel.cell]; rfl
  have ra : W.cell? ⟨g, 2 + a, none⟩ = some (.int .i64 (cx.r a)) := by rw [M1.out.mblk.cell]; exact mc_reg _ _ _ ha
  have rb : W.cell? ⟨g, 2 + b, none⟩ = some (.int .i64 (cx.r b)) := by rw [M1.out.mblk.cell]; exact mc_reg _ _ _ hb
  have rc : W.cell? ⟨g, 2 + c, none⟩ = some (.int .i64 (cx.r c)) := by rw [M1.out.mblk.cell]; exact mc_reg _ _ _ hc
  have rpc : W.cell? ⟨g, 0, none⟩ = some (.int .i64 nx) := by rw [M1.out.mblk.cell]; rfl
  have r15 : W.cell? ⟨g, 17, none⟩ = some (.int .i64 (cx.r 15)) := by rw [M1.out.mblk.cell]; rfl
  have rm : W.cell? ⟨g, 18, none⟩ = some (.pointer (some ⟨s, 0, none⟩)) := by rw [M1.out.mblk.cell]; rfl
  have rp : W.cell? ⟨g, 1, none⟩ = some (.int .i64 cx.tp) := by rw [M1.out.mblk.cell]; rfl
  have fz : Hid (∀ k, W.frozen? ⟨g, k, none⟩ = false) := Lib.hid (fun k => M1.out.mblk.free k)
  have na0 : (0 : Int) ≤ (a : Int) := by omega
  have na1 : (a : Int) < 16 := by omega
  have nb0 : (0 : Int) ≤ (b : Int) := by omega
  have nb1 : (b : Int) < 16 := by omega
  have nc0 : (0 : Int) ≤ (c : Int) := by omega
  have nc1 : (c : Int) < 16 := by omega
  clear f0 g0 hW hq
  have C1 := Lib.hid (CR.out _ _ M1.out)
  clear CR
  go_wp2_with fail
  refine (C1.out).mono ?_
  rintro y w3 ⟨rfl, m3⟩
  have M3 := Lib.hid m3.swap.right; clear m3 C1
  go_wp2
  go_end0
  exact ⟨rfl, M3.out⟩

set_option maxRecDepth 100000 in
set_option maxHeartbeats 2000000 in
theorem act_kdiv0 [hY : Fr Y] (h : Has B w wr (Star (Mc g cx s ev0) (Star (Sp s L) Y))) {a b c : Nat} (ha : a < 16) (hb : b < 16) (hc : c < 16) (n nx : Int) (hz : cx.r c = 0) :
    Calls Try.prog 33 #[.pointer (some ⟨g, 0, none⟩), .agg #[.int .i64 6, .int .i64 a, .int .i64 b, .int .i64 c, .int .i64 n], .int .i64 nx] wr fun x w' => x = .returned (.tuple #[]) ∧ Has B w w' (Star (Mc g { cx with pc := nx } s (trapV 1)) (Star (Sp s L) Y)) := by
  have M0 := Lib.hid (h.newcel 30 #[.int .i64 6, .int .i64 a, .int .i64 b, .int .i64 c, .int .i64 n]).swap
  have f0 : (wr.alloc (.cells #[.int .i64 6, .int .i64 a, .int .i64 b, .int .i64 c, .int .i64 n] 30)).frozen? ⟨g, 0, none⟩ = false := M0.out.mblk.free 0
  have g0 : (wr.alloc (.cells #[.int .i64 6, .int .i64 a, .int .i64 b, .int .i64 c, .int .i64 n] 30)).cell? ⟨g, 0, none⟩ = some (.int .i64 cx.pc) := by rw [M0.out.mblk.cell]; rfl
  have M1 := Lib.hid (M0.out.mpc nx)
  clear h M0
  have CR := Lib.hid (fun (w2 : World) (q2 : Nat) (m : Has B w w2 (Star (Mc g { cx with pc := nx } s ev0) (Star (Cel q2 30 #[.int .i64 6, .int .i64 a, .int .i64 b, .int .i64 c, .int .i64 n]) (Star (Sp s L) Y)))) => reck_div0 m ha hb hc n hz)
  clear hz
  go_enter Try.func33, Try.ntmps33
  go_upto_region 2 with (fail)
  obtain ⟨W, hW⟩ : ∃ W, (wr.alloc (.cells #[.int .i64 6, .int .i64 a, .int .i64 b, .int .i64 c, .int .i64 n] 30)).setCell ⟨g, 0, none⟩ (.int .i64 nx) = W := ⟨_, rfl⟩
  obtain ⟨q, hq⟩ : ∃ q, wr.heap.size = q := ⟨_, rfl⟩
  rw [hW, hq] at M1
  simp only [hW, hq]
  have i0 : W.cell? ⟨q, 0, none⟩ = some (.int .i64 6) := by rw [M1.out.swap.cel.cell]; rfl
  have i1 : W.cell? ⟨q, 1, none⟩ = some (.int .i64 a) := by rw [M1.out.swap.cel.cell]; rfl
  have i2 : W.cell? ⟨q, 2, none⟩ = some (.int .i64 b) := by rw [M1.out.swap.cel.cell]; rfl
  have i3 : W.cell? ⟨q, 3, none⟩ = some (.int .i64 c) := by rw [M1.out.swap.cel.cell]; rfl
  have i4 : W.cell? ⟨q, 4, none⟩ = some (.int .i64 n) := by rw [M1.out.swap.cel.cell]; rfl
  have ra : W.cell? ⟨g, 2 + a, none⟩ = some (.int .i64 (cx.r a)) := by rw [M1.out.mblk.cell]; exact mc_reg _ _ _ ha
  have rb : W.cell? ⟨g, 2 + b, none⟩ = some (.int .i64 (cx.r b)) := by rw [M1.out.mblk.cell]; exact mc_reg _ _ _ hb
  have rc : W.cell? ⟨g, 2 + c, none⟩ = some (.int .i64 (cx.r c)) := by rw [M1.out.mblk.cell]; exact mc_reg _ _ _ hc
  have rpc : W.cell? ⟨g, 0, none⟩ = some (.int .i64 nx) := by rw [M1.out.mblk.cell]; rfl
  have r15 : W.cell? ⟨g, 17, none⟩ = some (.int .i64 (cx.r 15)) := by rw [M1.out.mblk.cell]; rfl
  have rm : W.cell? ⟨g, 18, none⟩ = some (.pointer (some ⟨s, 0, none⟩)) := by rw [M1.out.mblk.cell]; rfl
  have rp : W.cell? ⟨g, 1, none⟩ = some (.int .i64 cx.tp) := by rw [M1.out.mblk.cell]; rfl
  have fz : Hid (∀ k, W.frozen? ⟨g, k, none⟩ = false) := Lib.hid (fun k => M1.out.mblk.free k)
  have na0 : (0 : Int) ≤ (a : Int) := by omega
  have na1 : (a : Int) < 16 := by omega
  have nb0 : (0 : Int) ≤ (b : Int) := by omega
  have nb1 : (b : Int) < 16 := by omega
  have nc0 : (0 : Int) ≤ (c : Int) := by omega
  have nc1 : (c : Int) < 16 := by omega
  clear f0 g0 hW hq
  have C1 := Lib.hid (CR.out _ _ M1.out)
  clear CR
  go_wp2_with fail
  refine (C1.out).mono ?_
  rintro y w3 ⟨rfl, m3⟩
  have M3 := Lib.hid m3.swap.right; clear m3 C1
  go_wp2
  go_end0
  exact ⟨rfl, M3.out⟩
end
end Go.Proofs.Ytkpaeogjefjbfaa
