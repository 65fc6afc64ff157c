/-
  Layer 6: what an instruction does: the program's reckon.
  Conditions: none. (My own text.)
-/
import Derived.Test.YtkpaeogjefjbfaaCpb
import Derived.StillTailTactics
import Derived.Deep.RegionLaw
import Derived.Deep.RegionWith
import Derived.Deep.RegionHeld3
namespace Go.Proofs.Ytkpaeogjefjbfaa
open Go.RowKit Spm
set_option linter.unusedVariables false
set_option linter.unusedSimpArgs false

section
variable {B : Nat} {w wr w' : World} {g s : Nat} {cx : Ctx} {L : List Rg} {Y : Res}
set_option maxRecDepth 100000 in
set_option maxHeartbeats 2000000 in
theorem reck_add [hY : Fr Y] {e : Evt} (h : Has B w wr (Star (Mc g cx s e) Y)) {a b c : Nat} (ha : a < 16) (hb : b < 16) (hc : c < 16) (n : Int) :
    Calls Try.prog 72 #[.pointer (some ⟨g, 0, none⟩), .agg #[.int .i64 3, .int .i64 a, .int .i64 b, .int .i64 c, .int .i64 n]] wr fun x w' => x = .returned (.tuple #[]) ∧ Has B w w' (Star (Mc g { cx with r := upd cx.r a (wrap64 (cx.r b + cx.r c)) } s e) Y) := by
  have M1 := Lib.hid (h.newcel 30 #[.int .i64 3, .int .i64 a, .int .i64 b, .int .i64 c, .int .i64 n]).swap
  obtain ⟨W, hW⟩ : ∃ W, wr.alloc (.cells #[.int .i64 3, .int .i64 a, .int .i64 b, .int .i64 c, .int .i64 n] 30) = W := ⟨_, rfl⟩
  obtain ⟨q, hq⟩ : ∃ q, wr.heap.size = q := ⟨_, rfl⟩
  rw [hW, hq] at M1
  clear h
  go_enter Try.func72, Try.ntmps72
  go_upto_region 1 with (fail)
  try simp only [hW, hq]
  have i0 : W.cell? ⟨q, 0, none⟩ = some (.int .i64 3) := by rw [M1.out.swap.cel.cell]; rfl
  have i1 : W.cell? ⟨q, 1, none⟩ = some (.int .i64 a) := by rw [M1.out.swap.cel.cell]; rfl
  have i2 : W.cell? ⟨q, 2, none⟩ = some (.int .i64 b) := by rw [M1.out.swap.cel.cell]; rfl
  have i3 : W.cell? ⟨q, 3, none⟩ = some (.int .i64 c) := by rw [M1.out.swap.cel.cell]; rfl
  have rb : W.cell? ⟨g, 2 + b, none⟩ = some (.int .i64 (cx.r b)) := by rw [M1.out.mblk.cell]; exact mc_reg _ _ _ hb
  have rc : W.cell? ⟨g, 2 + c, none⟩ = some (.int .i64 (cx.r c)) := by rw [M1.out.mblk.cell]; exact mc_reg _ _ _ hc
  have na0 : (0 : Int) ≤ (a : Int) := by omega
  have na1 : (a : Int) < 16 := by omega
  have nb0 : (0 : Int) ≤ (b : Int) := by omega
  have nb1 : (b : Int) < 16 := by omega
  have nc0 : (0 : Int) ≤ (c : Int) := by omega
  have nc1 : (c : Int) < 16 := by omega
  clear hW hq
  go_wp2_with fail
  go_quiet (fail)
  have N1 := Lib.hid (M1.out.stay (below_drewN (Below.refl _ _) nq))
  generalize W.drewN nq = W2 at N1 ⊢
  clear i0 i1 i2 i3 rb rc M1
  have i0 : W2.cell? ⟨q, 0, none⟩ = some (.int .i64 3) := by rw [N1.out.swap.cel.cell]; rfl
  have i1 : W2.cell? ⟨q, 1, none⟩ = some (.int .i64 a) := by rw [N1.out.swap.cel.cell]; rfl
  have ra : W2.cell? ⟨g, 2 + a, none⟩ = some (.int .i64 (cx.r a)) := by rw [N1.out.mblk.cell]; exact mc_reg _ _ _ ha
  have fa : W2.frozen? ⟨g, 2 + a, none⟩ = false := N1.out.mblk.free (2 + a)
  go_wp2_with fail
  go_still_tail 8, (by kernel_rfl)
  change wpList _ _ _ _ _ W2.drew
  have N2 := Lib.hid (N1.out.stay below_drw)
  have fa2 : W2.drew.frozen? ⟨g, 2 + a, none⟩ = false := fa
  have ra2 : W2.drew.cell? ⟨g, 2 + a, none⟩ = some (.int .i64 (cx.r a)) := ra
  generalize W2.drew = W3 at N2 fa2 ra2 ⊢
  have M3 := Lib.hid (N2.out.mset ha (wrap64 (cx.r b + cx.r c))).swap.right
  go_wp2
  go_end0
  exact ⟨rfl, M3.out⟩

set_option maxRecDepth 100000 in
set_option maxHeartbeats 2000000 in
theorem reck_sub [hY : Fr Y] {e : Evt} (h : Has B w wr (Star (Mc g cx s e) Y)) {a b c : Nat} (ha : a < 16) (hb : b < 16) (hc : c < 16) (n : Int) :
    Calls Try.prog 72 #[.pointer (some ⟨g, 0, none⟩), .agg #[.int .i64 4, .int .i64 a, .int .i64 b, .int .i64 c, .int .i64 n]] wr fun x w' => x = .returned (.tuple #[]) ∧ Has B w w' (Star (Mc g { cx with r := upd cx.r a (wrap64 (cx.r b - cx.r c)) } s e) Y) := by
  have M1 := Lib.hid (h.newcel 30 #[.int .i64 4, .int .i64 a, .int .i64 b, .int .i64 c, .int .i64 n]).swap
  obtain ⟨W, hW⟩ : ∃ W, wr.alloc (.cells #[.int .i64 4, .int .i64 a, .int .i64 b, .int .i64 c, .int .i64 n] 30) = W := ⟨_, rfl⟩
  obtain ⟨q, hq⟩ : ∃ q, wr.heap.size = q := ⟨_, rfl⟩
  rw [hW, hq] at M1
  clear h
  go_enter Try.func72, Try.ntmps72
  go_upto_region 1 with (fail)
  try simp only [hW, hq]
  have i0 : W.cell? ⟨q, 0, none⟩ = some (.int .i64 4) := by rw [M1.out.swap.cel.cell]; rfl
  have i1 : W.cell? ⟨q, 1, none⟩ = some (.int .i64 a) := by rw [M1.out.swap.cel.cell]; rfl
  have i2 : W.cell? ⟨q, 2, none⟩ = some (.int .i64 b) := by rw [M1.out.swap.cel.cell]; rfl
  have i3 : W.cell? ⟨q, 3, none⟩ = some (.int .i64 c) := by rw [M1.out.swap.cel.cell]; rfl
  have rb : W.cell? ⟨g, 2 + b, none⟩ = some (.int .i64 (cx.r b)) := by rw [M1.out.mblk.cell]; exact mc_reg _ _ _ hb
  have rc : W.cell? ⟨g, 2 + c, none⟩ = some (.int .i64 (cx.r c)) := by rw [M1.out.mblk.cell]; exact mc_reg _ _ _ hc
  have na0 : (0 : Int) ≤ (a : Int) := by omega
  have na1 : (a : Int) < 16 := by omega
  have nb0 : (0 : Int) ≤ (b : Int) := by omega
  have nb1 : (b : Int) < 16 := by omega
  have nc0 : (0 : Int) ≤ (c : Int) := by omega
  have nc1 : (c : Int) < 16 := by omega
  clear hW hq
  go_wp2_with fail
  go_quiet (fail)
  have N1 := Lib.hid (M1.out.stay (below_drewN (Below.refl _ _) nq))
  generalize W.drewN nq = W2 at N1 ⊢
  clear i0 i1 i2 i3 rb rc M1
  have i0 : W2.cell? ⟨q, 0, none⟩ = some (.int .i64 4) := by rw [N1.out.swap.cel.cell]; rfl
  have i1 : W2.cell? ⟨q, 1, none⟩ = some (.int .i64 a) := by rw [N1.out.swap.cel.cell]; rfl
  have ra : W2.cell? ⟨g, 2 + a, none⟩ = some (.int .i64 (cx.r a)) := by rw [N1.out.mblk.cell]; exact mc_reg _ _ _ ha
  have fa : W2.frozen? ⟨g, 2 + a, none⟩ = false := N1.out.mblk.free (2 + a)
  go_wp2_with fail
  go_still_tail 8, (by kernel_rfl)
  change wpList _ _ _ _ _ W2.drew
  have N2 := Lib.hid (N1.out.stay below_drw)
  have fa2 : W2.drew.frozen? ⟨g, 2 + a, none⟩ = false := fa
  have ra2 : W2.drew.cell? ⟨g, 2 + a, none⟩ = some (.int .i64 (cx.r a)) := ra
  generalize W2.drew = W3 at N2 fa2 ra2 ⊢
  have M3 := Lib.hid (N2.out.mset ha (wrap64 (cx.r b - cx.r c))).swap.right
  go_wp2
  go_end0
  exact ⟨rfl, M3.out⟩

set_option maxRecDepth 100000 in
set_option maxHeartbeats 2000000 in
theorem reck_mul [hY : Fr Y] {e : Evt} (h : Has B w wr (Star (Mc g cx s e) Y)) {a b c : Nat} (ha : a < 16) (hb : b < 16) (hc : c < 16) (n : Int) :
    Calls Try.prog 72 #[.pointer (some ⟨g, 0, none⟩), .agg #[.int .i64 5, .int .i64 a, .int .i64 b, .int .i64 c, .int .i64 n]] wr fun x w' => x = .returned (.tuple #[]) ∧ Has B w w' (Star (Mc g { cx with r := upd cx.r a (wrap64 (cx.r b * cx.r c)) } s e) Y) := by
  have M1 := Lib.hid (h.newcel 30 #[.int .i64 5, .int .i64 a, .int .i64 b, .int .i64 c, .int .i64 n]).swap
  obtain ⟨W, hW⟩ : ∃ W, wr.alloc (.cells #[.int .i64 5, .int .i64 a, .int .i64 b, .int .i64 c, .int .i64 n] 30) = W := ⟨_, rfl⟩
  obtain ⟨q, hq⟩ : ∃ q, wr.heap.size = q := ⟨_, rfl⟩
  rw [hW, hq] at M1
  clear h
  go_enter Try.func72, Try.ntmps72
  go_upto_region 1 with (fail)
  try simp only [hW, hq]
  have i0 : W.cell? ⟨q, 0, none⟩ = some (.int .i64 5) := by rw [M1.out.swap.cel.cell]; rfl
  have i1 : W.cell? ⟨q, 1, none⟩ = some (.int .i64 a) := by rw [M1.out.swap.cel.cell]; rfl
  have i2 : W.cell? ⟨q, 2, none⟩ = some (.int .i64 b) := by rw [M1.out.swap.cel.cell]; rfl
  have i3 : W.cell? ⟨q, 3, none⟩ = some (.int .i64 c) := by rw [M1.out.swap.cel.cell]; rfl
  have rb : W.cell? ⟨g, 2 + b, none⟩ = some (.int .i64 (cx.r b)) := by rw [M1.out.mblk.cell]; exact mc_reg _ _ _ hb
  have rc : W.cell? ⟨g, 2 + c, none⟩ = some (.int .i64 (cx.r c)) := by rw [M1.out.mblk.cell]; exact mc_reg _ _ _ hc
  have na0 : (0 : Int) ≤ (a : Int) := by omega
  have na1 : (a : Int) < 16 := by omega
  have nb0 : (0 : Int) ≤ (b : Int) := by omega
  have nb1 : (b : Int) < 16 := by omega
  have nc0 : (0 : Int) ≤ (c : Int) := by omega
  have nc1 : (c : Int) < 16 := by omega
  clear hW hq
  go_wp2_with fail
  go_quiet (fail)
  have N1 := Lib.hid (M1.out.stay (below_drewN (Below.refl _ _) nq))
  generalize W.drewN nq = W2 at N1 ⊢
  clear i0 i1 i2 i3 rb rc M1
  have i0 : W2.cell? ⟨q, 0, none⟩ = some (.int .i64 5) := by rw [N1.out.swap.cel.cell]; rfl
  have i1 : W2.cell? ⟨q, 1, none⟩ = some (.int .i64 a) := by rw [N1.out.swap.cel.cell]; rfl
  have ra : W2.cell? ⟨g, 2 + a, none⟩ = some (.int .i64 (cx.r a)) := by rw [N1.out.mblk.cell]; exact mc_reg _ _ _ ha
  have fa : W2.frozen? ⟨g, 2 + a, none⟩ = false := N1.out.mblk.free (2 + a)
  go_wp2_with fail
  go_still_tail 8, (by kernel_rfl)
  change wpList _ _ _ _ _ W2.drew
  have N2 := Lib.hid (N1.out.stay below_drw)
  have fa2 : W2.drew.frozen? ⟨g, 2 + a, none⟩ = false := fa
  have ra2 : W2.drew.cell? ⟨g, 2 + a, none⟩ = some (.int .i64 (cx.r a)) := ra
  generalize W2.drew = W3 at N2 fa2 ra2 ⊢
  have M3 := Lib.hid (N2.out.mset ha (wrap64 (cx.r b * cx.r c))).swap.right
  go_wp2
  go_end0
  exact ⟨rfl, M3.out⟩

set_option maxRecDepth 100000 in
set_option maxHeartbeats 2000000 in
theorem reck_less1 [hY : Fr Y] {e : Evt} (h : Has B w wr (Star (Mc g cx s e) Y)) {a b c : Nat} (ha : a < 16) (hb : b < 16) (hc : c < 16) (n : Int) (hz : cx.r b < cx.r c) :
    Calls Try.prog 72 #[.pointer (some ⟨g, 0, none⟩), .agg #[.int .i64 7, .int .i64 a, .int .i64 b, .int .i64 c, .int .i64 n]] wr fun x w' => x = .returned (.tuple #[]) ∧ Has B w w' (Star (Mc g { cx with r := upd cx.r a (1) } s e) Y) := by
  have M1 := Lib.hid (h.newcel 30 #[.int .i64 7, .int .i64 a, .int .i64 b, .int .i64 c, .int .i64 n]).swap
  obtain ⟨W, hW⟩ : ∃ W, wr.alloc (.cells #[.int .i64 7, .int .i64 a, .int .i64 b, .int .i64 c, .int .i64 n] 30) = W := ⟨_, rfl⟩
  obtain ⟨q, hq⟩ : ∃ q, wr.heap.size = q := ⟨_, rfl⟩
  rw [hW, hq] at M1
  clear h
  have hd : decide (cx.r b < cx.r c) = true := decide_eq_true hz
  go_enter Try.func72, Try.ntmps72
  go_upto_region 1 with (fail)
  try simp only [hW, hq]
  have i0 : W.cell? ⟨q, 0, none⟩ = some (.int .i64 7) := by rw [M1.out.swap.cel.cell]; rfl
  have i1 : W.cell? ⟨q, 1, none⟩ = some (.int .i64 a) := by rw [M1.out.swap.cel.cell]; rfl
  have i2 : W.cell? ⟨q, 2, none⟩ = some (.int .i64 b) := by rw [M1.out.swap.cel.cell]; rfl
  have i3 : W.cell? ⟨q, 3, none⟩ = some (.int .i64 c) := by rw [M1.out.swap.cel.cell]; rfl
  have rb : W.cell? ⟨g, 2 + b, none⟩ = some (.int .i64 (cx.r b)) := by rw [M1.out.mblk.cell]; exact mc_reg _ _ _ hb
  have rc : W.cell? ⟨g, 2 + c, none⟩ = some (.int .i64 (cx.r c)) := by rw [M1.out.mblk.cell]; exact mc_reg _ _ _ hc
  have na0 : (0 : Int) ≤ (a : Int) := by omega
  have na1 : (a : Int) < 16 := by omega
  have nb0 : (0 : Int) ≤ (b : Int) := by omega
  have nb1 : (b : Int) < 16 := by omega
  have nc0 : (0 : Int) ≤ (c : Int) := by omega
  have nc1 : (c : Int) < 16 := by omega
  clear hW hq
  go_wp2_with fail
  go_quiet (fail)
  have N1 := Lib.hid (M1.out.stay (below_drewN (Below.refl _ _) nq))
  generalize W.drewN nq = W2 at N1 ⊢
  clear i0 i1 i2 i3 rb rc M1
  have i0 : W2.cell? ⟨q, 0, none⟩ = some (.int .i64 7) := by rw [N1.out.swap.cel.cell]; rfl
  have i1 : W2.cell? ⟨q, 1, none⟩ = some (.int .i64 a) := by rw [N1.out.swap.cel.cell]; rfl
  have ra : W2.cell? ⟨g, 2 + a, none⟩ = some (.int .i64 (cx.r a)) := by rw [N1.out.mblk.cell]; exact mc_reg _ _ _ ha
  have fa : W2.frozen? ⟨g, 2 + a, none⟩ = false := N1.out.mblk.free (2 + a)
  go_wp2_with fail
  refine (truth_any _ _).mono ?_
  rintro y w3 ⟨rfl, hw3⟩
  obtain rfl := hw3
  try simp only [hd]
  go_wp2_with fail
  go_still_tail 8, (by kernel_rfl)
  change wpList _ _ _ _ _ W2.drew
  have N2 := Lib.hid (N1.out.stay below_drw)
  have fa2 : W2.drew.frozen? ⟨g, 2 + a, none⟩ = false := fa
  have ra2 : W2.drew.cell? ⟨g, 2 + a, none⟩ = some (.int .i64 (cx.r a)) := ra
  generalize W2.drew = W3 at N2 fa2 ra2 ⊢
  have M3 := Lib.hid (N2.out.mset ha (1)).swap.right
  go_wp2
  go_end0
  exact ⟨rfl, M3.out⟩

set_option maxRecDepth 100000 in
set_option maxHeartbeats 2000000 in
theorem reck_less0 [hY : Fr Y] {e : Evt} (h : Has B w wr (Star (Mc g cx s e) Y)) {a b c : Nat} (ha : a < 16) (hb : b < 16) (hc : c < 16) (n : Int) (hz : ¬ cx.r b < cx.r c) :
    Calls Try.prog 72 #[.pointer (some ⟨g, 0, none⟩), .agg #[.int .i64 7, .int .i64 a, .int .i64 b, .int .i64 c, .int .i64 n]] wr fun x w' => x = .returned (.tuple #[]) ∧ Has B w w' (Star (Mc g { cx with r := upd cx.r a (0) } s e) Y) := by
  have M1 := Lib.hid (h.newcel 30 #[.int .i64 7, .int .i64 a, .int .i64 b, .int .i64 c, .int .i64 n]).swap
  obtain ⟨W, hW⟩ : ∃ W, wr.alloc (.cells #[.int .i64 7, .int .i64 a, .int .i64 b, .int .i64 c, .int .i64 n] 30) = W := ⟨_, rfl⟩
  obtain ⟨q, hq⟩ : ∃ q, wr.heap.size = q := ⟨_, rfl⟩
  rw [hW, hq] at M1
  clear h
  have hd : decide (cx.r b < cx.r c) = false := decide_eq_false hz
  go_enter Try.func72, Try.ntmps72
  go_upto_region 1 with (fail)
  try simp only [hW, hq]
  have i0 : W.cell? ⟨q, 0, none⟩ = some (.int .i64 7) := by rw [M1.out.swap.cel.cell]; rfl
  have i1 : W.cell? ⟨q, 1, none⟩ = some (.int .i64 a) := by rw [M1.out.swap.cel.cell]; rfl
  have i2 : W.cell? ⟨q, 2, none⟩ = some (.int .i64 b) := by rw [M1.out.swap.cel.cell]; rfl
  have i3 : W.cell? ⟨q, 3, none⟩ = some (.int .i64 c) := by rw [M1.out.swap.cel.cell]; rfl
  have rb : W.cell? ⟨g, 2 + b, none⟩ = some (.int .i64 (cx.r b)) := by rw [M1.out.mblk.cell]; exact mc_reg _ _ _ hb
  have rc : W.cell? ⟨g, 2 + c, none⟩ = some (.int .i64 (cx.r c)) := by rw [M1.out.mblk.cell]; exact mc_reg _ _ _ hc
  have na0 : (0 : Int) ≤ (a : Int) := by omega
  have na1 : (a : Int) < 16 := by omega
  have nb0 : (0 : Int) ≤ (b : Int) := by omega
  have nb1 : (b : Int) < 16 := by omega
  have nc0 : (0 : Int) ≤ (c : Int) := by omega
  have nc1 : (c : Int) < 16 := by omega
  clear hW hq
  go_wp2_with fail
  go_quiet (fail)
  have N1 := Lib.hid (M1.out.stay (below_drewN (Below.refl _ _) nq))
  generalize W.drewN nq = W2 at N1 ⊢
  clear i0 i1 i2 i3 rb rc M1
  have i0 : W2.cell? ⟨q, 0, none⟩ = some (.int .i64 7) := by rw [N1.out.swap.cel.cell]; rfl
  have i1 : W2.cell? ⟨q, 1, none⟩ = some (.int .i64 a) := by rw [N1.out.swap.cel.cell]; rfl
  have ra : W2.cell? ⟨g, 2 + a, none⟩ = some (.int .i64 (cx.r a)) := by rw [N1.out.mblk.cell]; exact mc_reg _ _ _ ha
  have fa : W2.frozen? ⟨g, 2 + a, none⟩ = false := N1.out.mblk.free (2 + a)
  go_wp2_with fail
  refine (truth_any _ _).mono ?_
  rintro y w3 ⟨rfl, hw3⟩
  obtain rfl := hw3
  try simp only [hd]
  go_wp2_with fail
  go_still_tail 8, (by kernel_rfl)
  change wpList _ _ _ _ _ W2.drew
  have N2 := Lib.hid (N1.out.stay below_drw)
  have fa2 : W2.drew.frozen? ⟨g, 2 + a, none⟩ = false := fa
  have ra2 : W2.drew.cell? ⟨g, 2 + a, none⟩ = some (.int .i64 (cx.r a)) := ra
  generalize W2.drew = W3 at N2 fa2 ra2 ⊢
  have M3 := Lib.hid (N2.out.mset ha (0)).swap.right
  go_wp2
  go_end0
  exact ⟨rfl, M3.out⟩

set_option maxRecDepth 100000 in
set_option maxHeartbeats 2000000 in
theorem reck_same1 [hY : Fr Y] {e : Evt} (h : Has B w wr (Star (Mc g cx s e) Y)) {a b c : Nat} (ha : a < 16) (hb : b < 16) (hc : c < 16) (n : Int) (hz : cx.r b = cx.r c) :
    Calls Try.prog 72 #[.pointer (some ⟨g, 0, none⟩), .agg #[.int .i64 8, .int .i64 a, .int .i64 b, .int .i64 c, .int .i64 n]] wr fun x w' => x = .returned (.tuple #[]) ∧ Has B w w' (Star (Mc g { cx with r := upd cx.r a (1) } s e) Y) := by
  have M1 := Lib.hid (h.newcel 30 #[.int .i64 8, .int .i64 a, .int .i64 b, .int .i64 c, .int .i64 n]).swap
  obtain ⟨W, hW⟩ : ∃ W, wr.alloc (.cells #[.int .i64 8, .int .i64 a, .int .i64 b, .int .i64 c, .int .i64 n] 30) = W := ⟨_, rfl⟩
  obtain ⟨q, hq⟩ : ∃ q, wr.heap.size = q := ⟨_, rfl⟩
  rw [hW, hq] at M1
  clear h
  have hd : (cx.r b == cx.r c) = true := beq_iff_eq.2 hz
  go_enter Try.func72, Try.ntmps72
  go_upto_region 1 with (fail)
  try simp only [hW, hq]
  have i0 : W.cell? ⟨q, 0, none⟩ = some (.int .i64 8) := by rw [M1.out.swap.cel.cell]; rfl
  have i1 : W.cell? ⟨q, 1, none⟩ = some (.int .i64 a) := by rw [M1.out.swap.cel.cell]; rfl
  have i2 : W.cell? ⟨q, 2, none⟩ = some (.int .i64 b) := by rw [M1.out.swap.cel.cell]; rfl
  have i3 : W.cell? ⟨q, 3, none⟩ = some (.int .i64 c) := by rw [M1.out.swap.cel.cell]; rfl
  have rb : W.cell? ⟨g, 2 + b, none⟩ = some (.int .i64 (cx.r b)) := by rw [M1.out.mblk.cell]; exact mc_reg _ _ _ hb
  have rc : W.cell? ⟨g, 2 + c, none⟩ = some (.int .i64 (cx.r c)) := by rw [M1.out.mblk.cell]; exact mc_reg _ _ _ hc
  have na0 : (0 : Int) ≤ (a : Int) := by omega
  have na1 : (a : Int) < 16 := by omega
  have nb0 : (0 : Int) ≤ (b : Int) := by omega
  have nb1 : (b : Int) < 16 := by omega
  have nc0 : (0 : Int) ≤ (c : Int) := by omega
  have nc1 : (c : Int) < 16 := by omega
  clear hW hq
  go_wp2_with fail
  go_quiet (fail)
  have N1 := Lib.hid (M1.out.stay (below_drewN (Below.refl _ _) nq))
  generalize W.drewN nq = W2 at N1 ⊢
  clear i0 i1 i2 i3 rb rc M1
  have i0 : W2.cell? ⟨q, 0, none⟩ = some (.int .i64 8) := by rw [N1.out.swap.cel.cell]; rfl
  have i1 : W2.cell? ⟨q, 1, none⟩ = some (.int .i64 a) := by rw [N1.out.swap.cel.cell]; rfl
  have ra : W2.cell? ⟨g, 2 + a, none⟩ = some (.int .i64 (cx.r a)) := by rw [N1.out.mblk.cell]; exact mc_reg _ _ _ ha
  have fa : W2.frozen? ⟨g, 2 + a, none⟩ = false := N1.out.mblk.free (2 + a)
  go_wp2_with fail
  refine (truth_any _ _).mono ?_
  rintro y w3 ⟨rfl, hw3⟩
  obtain rfl := hw3
  try simp only [hd]
  go_wp2_with fail
  go_still_tail 8, (by kernel_rfl)
  change wpList _ _ _ _ _ W2.drew
  have N2 := Lib.hid (N1.out.stay below_drw)
  have fa2 : W2.drew.frozen? ⟨g, 2 + a, none⟩ = false := fa
  have ra2 : W2.drew.cell? ⟨g, 2 + a, none⟩ = some (.int .i64 (cx.r a)) := ra
  generalize W2.drew = W3 at N2 fa2 ra2 ⊢
  have M3 := Lib.hid (N2.out.mset ha (1)).swap.right
  go_wp2
  go_end0
  exact ⟨rfl, M3.out⟩

set_option maxRecDepth 100000 in
set_option maxHeartbeats 2000000 in
theorem reck_same0 [hY : Fr Y] {e : Evt} (h : Has B w wr (Star (Mc g cx s e) Y)) {a b c : Nat} (ha : a < 16) (hb : b < 16) (hc : c < 16) (n : Int) (hz : ¬ cx.r b = cx.r c) :
    Calls Try.prog 72 #[.pointer (some ⟨g, 0, none⟩), .agg #[.int .i64 8, .int .i64 a, .int .i64 b, .int .i64 c, .int .i64 n]] wr fun x w' => x = .returned (.tuple #[]) ∧ Has B w w' (Star (Mc g { cx with r := upd cx.r a (0) } s e) Y) := by
  have M1 := Lib.hid (h.newcel 30 #[.int .i64 8, .int .i64 a, .int .i64 b, .int .i64 c, .int .i64 n]).swap
  obtain ⟨W, hW⟩ : ∃ W, wr.alloc (.cells #[.int .i64 8, .int .i64 a, .int .i64 b, .int .i64 c, .int .i64 n] 30) = W := ⟨_, rfl⟩
  obtain ⟨q, hq⟩ : ∃ q, wr.heap.size = q := ⟨_, rfl⟩
  rw [hW, hq] at M1
  clear h
  have hd : (cx.r b == cx.r c) = false := beq_eq_false_iff_ne.2 hz
  go_enter Try.func72, Try.ntmps72
  go_upto_region 1 with (fail)
  try simp only [hW, hq]
  have i0 : W.cell? ⟨q, 0, none⟩ = some (.int .i64 8) := by rw [M1.out.swap.cel.cell]; rfl
  have i1 : W.cell? ⟨q, 1, none⟩ = some (.int .i64 a) := by rw [M1.out.swap.cel.cell]; rfl
  have i2 : W.cell? ⟨q, 2, none⟩ = some (.int .i64 b) := by rw [M1.out.swap.cel.cell]; rfl
  have i3 : W.cell? ⟨q, 3, none⟩ = some (.int .i64 c) := by rw [M1.out.swap.cel.cell]; rfl
  have rb : W.cell? ⟨g, 2 + b, none⟩ = some (.int .i64 (cx.r b)) := by rw [M1.out.mblk.cell]; exact mc_reg _ _ _ hb
  have rc : W.cell? ⟨g, 2 + c, none⟩ = some (.int .i64 (cx.r c)) := by rw [M1.out.mblk.cell]; exact mc_reg _ _ _ hc
  have na0 : (0 : Int) ≤ (a : Int) := by omega
  have na1 : (a : Int) < 16 := by omega
  have nb0 : (0 : Int) ≤ (b : Int) := by omega
  have nb1 : (b : Int) < 16 := by omega
  have nc0 : (0 : Int) ≤ (c : Int) := by omega
  have nc1 : (c : Int) < 16 := by omega
  clear hW hq
  go_wp2_with fail
  go_quiet (fail)
  have N1 := Lib.hid (M1.out.stay (below_drewN (Below.refl _ _) nq))
  generalize W.drewN nq = W2 at N1 ⊢
  clear i0 i1 i2 i3 rb rc M1
  have i0 : W2.cell? ⟨q, 0, none⟩ = some (.int .i64 8) := by rw [N1.out.swap.cel.cell]; rfl
  have i1 : W2.cell? ⟨q, 1, none⟩ = some (.int .i64 a) := by rw [N1.out.swap.cel.cell]; rfl
  have ra : W2.cell? ⟨g, 2 + a, none⟩ = some (.int .i64 (cx.r a)) := by rw [N1.out.mblk.cell]; exact mc_reg _ _ _ ha
  have fa : W2.frozen? ⟨g, 2 + a, none⟩ = false := N1.out.mblk.free (2 + a)
  go_wp2_with fail
  refine (truth_any _ _).mono ?_
  rintro y w3 ⟨rfl, hw3⟩
  obtain rfl := hw3
  try simp only [hd]
  go_wp2_with fail
  go_still_tail 8, (by kernel_rfl)
  change wpList _ _ _ _ _ W2.drew
  have N2 := Lib.hid (N1.out.stay below_drw)
  have fa2 : W2.drew.frozen? ⟨g, 2 + a, none⟩ = false := fa
  have ra2 : W2.drew.cell? ⟨g, 2 + a, none⟩ = some (.int .i64 (cx.r a)) := ra
  generalize W2.drew = W3 at N2 fa2 ra2 ⊢
  have M3 := Lib.hid (N2.out.mset ha (0)).swap.right
  go_wp2
  go_end0
  exact ⟨rfl, M3.out⟩

set_option maxRecDepth 100000 in
set_option maxHeartbeats 2000000 in
theorem reck_div1 [hY : Fr Y] {e : Evt} (h : Has B w wr (Star (Mc g cx s e) Y)) {a b c : Nat} (ha : a < 16) (hb : b < 16) (hc : c < 16) (n : Int) (hz : ¬ cx.r c = 0) :
    Calls Try.prog 72 #[.pointer (some ⟨g, 0, none⟩), .agg #[.int .i64 6, .int .i64 a, .int .i64 b, .int .i64 c, .int .i64 n]] wr fun x w' => x = .returned (.tuple #[]) ∧ Has B w w' (Star (Mc g { cx with r := upd cx.r a (wrap64 ((cx.r b).tdiv (cx.r c))) } s e) Y) := by
  have M1 := Lib.hid (h.newcel 30 #[.int .i64 6, .int .i64 a, .int .i64 b, .int .i64 c, .int .i64 n]).swap
  obtain ⟨W, hW⟩ : ∃ W, wr.alloc (.cells #[.int .i64 6, .int .i64 a, .int .i64 b, .int .i64 c, .int .i64 n] 30) = W := ⟨_, rfl⟩
  obtain ⟨q, hq⟩ : ∃ q, wr.heap.size = q := ⟨_, rfl⟩
  rw [hW, hq] at M1
  clear h
  have hd : (cx.r c == 0) = false := beq_eq_false_iff_ne.2 hz
  go_enter Try.func72, Try.ntmps72
  go_upto_region 1 with (fail)
  try simp only [hW, hq]
  have i0 : W.cell? ⟨q, 0, none⟩ = some (.int .i64 6) := by rw [M1.out.swap.cel.cell]; rfl
  have i1 : W.cell? ⟨q, 1, none⟩ = some (.int .i64 a) := by rw [M1.out.swap.cel.cell]; rfl
  have i2 : W.cell? ⟨q, 2, none⟩ = some (.int .i64 b) := by rw [M1.out.swap.cel.cell]; rfl
  have i3 : W.cell? ⟨q, 3, none⟩ = some (.int .i64 c) := by rw [M1.out.swap.cel.cell]; rfl
  have rb : W.cell? ⟨g, 2 + b, none⟩ = some (.int .i64 (cx.r b)) := by rw [M1.out.mblk.cell]; exact mc_reg _ _ _ hb
  have rc : W.cell? ⟨g, 2 + c, none⟩ = some (.int .i64 (cx.r c)) := by rw [M1.out.mblk.cell]; exact mc_reg _ _ _ hc
  have na0 : (0 : Int) ≤ (a : Int) := by omega
  have na1 : (a : Int) < 16 := by omega
  have nb0 : (0 : Int) ≤ (b : Int) := by omega
  have nb1 : (b : Int) < 16 := by omega
  have nc0 : (0 : Int) ≤ (c : Int) := by omega
  have nc1 : (c : Int) < 16 := by omega
  clear hW hq
  go_wp2_with fail
  go_quiet (fail)
  have N1 := Lib.hid (M1.out.stay (below_drewN (Below.refl _ _) nq))
  generalize W.drewN nq = W2 at N1 ⊢
  clear i0 i1 i2 i3 rb rc M1
  have i0 : W2.cell? ⟨q, 0, none⟩ = some (.int .i64 6) := by rw [N1.out.swap.cel.cell]; rfl
  have i1 : W2.cell? ⟨q, 1, none⟩ = some (.int .i64 a) := by rw [N1.out.swap.cel.cell]; rfl
  have ra : W2.cell? ⟨g, 2 + a, none⟩ = some (.int .i64 (cx.r a)) := by rw [N1.out.mblk.cell]; exact mc_reg _ _ _ ha
  have fa : W2.frozen? ⟨g, 2 + a, none⟩ = false := N1.out.mblk.free (2 + a)
  go_wp2_with fail
  go_still_tail 8, (by kernel_rfl)
  change wpList _ _ _ _ _ W2.drew
  have N2 := Lib.hid (N1.out.stay below_drw)
  have fa2 : W2.drew.frozen? ⟨g, 2 + a, none⟩ = false := fa
  have ra2 : W2.drew.cell? ⟨g, 2 + a, none⟩ = some (.int .i64 (cx.r a)) := ra
  generalize W2.drew = W3 at N2 fa2 ra2 ⊢
  have M3 := Lib.hid (N2.out.mset ha (wrap64 ((cx.r b).tdiv (cx.r c)))).swap.right
  go_wp2
  go_end0
  exact ⟨rfl, M3.out⟩

set_option maxRecDepth 100000 in
set_option maxHeartbeats 2000000 in
theorem reck_div0 [hY : Fr Y] {e : Evt} (h : Has B w wr (Star (Mc g cx s e) Y)) {a b c : Nat} (ha : a < 16) (hb : b < 16) (hc : c < 16) (n : Int) (hz : cx.r c = 0) :
    Calls Try.prog 72 #[.pointer (some ⟨g, 0, none⟩), .agg #[.int .i64 6, .int .i64 a, .int .i64 b, .int .i64 c, .int .i64 n]] wr fun x w' => x = .returned (.tuple #[]) ∧ Has B w w' (Star (Mc g cx s (trapV 1)) Y) := by
  have M1 := Lib.hid (h.newcel 30 #[.int .i64 6, .int .i64 a, .int .i64 b, .int .i64 c, .int .i64 n]).swap
  obtain ⟨W, hW⟩ : ∃ W, wr.alloc (.cells #[.int .i64 6, .int .i64 a, .int .i64 b, .int .i64 c, .int .i64 n] 30) = W := ⟨_, rfl⟩
  obtain ⟨q, hq⟩ : ∃ q, wr.heap.size = q := ⟨_, rfl⟩
  rw [hW, hq] at M1
  clear h
  have hd : (cx.r c == 0) = true := beq_iff_eq.2 hz
  go_enter Try.func72, Try.ntmps72
  go_upto_region 1 with (fail)
  try simp only [hW, hq]
  have i0 : W.cell? ⟨q, 0, none⟩ = some (.int .i64 6) := by rw [M1.out.swap.cel.cell]; rfl
  have i1 : W.cell? ⟨q, 1, none⟩ = some (.int .i64 a) := by rw [M1.out.swap.cel.cell]; rfl
  have i2 : W.cell? ⟨q, 2, none⟩ = some (.int .i64 b) := by rw [M1.out.swap.cel.cell]; rfl
  have i3 : W.cell? ⟨q, 3, none⟩ = some (.int .i64 c) := by rw [M1.out.swap.cel.cell]; rfl
  have rb : W.cell? ⟨g, 2 + b, none⟩ = some (.int .i64 (cx.r b)) := by rw [M1.out.mblk.cell]; exact mc_reg _ _ _ hb
  have rc : W.cell? ⟨g, 2 + c, none⟩ = some (.int .i64 (cx.r c)) := by rw [M1.out.mblk.cell]; exact mc_reg _ _ _ hc
  have na0 : (0 : Int) ≤ (a : Int) := by omega
  have na1 : (a : Int) < 16 := by omega
  have nb0 : (0 : Int) ≤ (b : Int) := by omega
  have nb1 : (b : Int) < 16 := by omega
  have nc0 : (0 : Int) ≤ (c : Int) := by omega
  have nc1 : (c : Int) < 16 := by omega
  clear hW hq
  go_wp2_with fail
  go_quiet (fail)
  have N1 := Lib.hid (M1.out.stay (below_drewN (Below.refl _ _) nq))
  generalize W.drewN nq = W2 at N1 ⊢
  clear i0 i1 i2 i3 rb rc M1
  have i0 : W2.cell? ⟨q, 0, none⟩ = some (.int .i64 6) := by rw [N1.out.swap.cel.cell]; rfl
  have i1 : W2.cell? ⟨q, 1, none⟩ = some (.int .i64 a) := by rw [N1.out.swap.cel.cell]; rfl
  have ra : W2.cell? ⟨g, 2 + a, none⟩ = some (.int .i64 (cx.r a)) := by rw [N1.out.mblk.cell]; exact mc_reg _ _ _ ha
  have fa : W2.frozen? ⟨g, 2 + a, none⟩ = false := N1.out.mblk.free (2 + a)
  have C1 := Lib.hid (trap_any N1.out 1)
  go_wp2_with fail
  refine (C1.out).mono ?_
  rintro y w2 ⟨rfl, m2⟩
  have M3 := Lib.hid m2.swap.right; clear m2
  go_wp2
  try simp only [Exit.inBlock, Exit.then]
  refine bodyPost_ret (results_none rfl _ _ _) rfl ?_
  exact ⟨rfl, M3.out⟩
end
end Go.Proofs.Ytkpaeogjefjbfaa
