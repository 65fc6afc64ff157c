/-
  Layer 4: the instruction that eight bytes are, by the document.
  Conditions: none. (My own text.)
-/
import Derived.Test.YtmbacegbcccdjaaDoorPk
import Derived.Test.YtmbacegbcccdjaaDoorCdf
import Derived.Test.YtmbacegbcccdjaaDoorCdd
import Derived.Test.YtmbacegbcccdjaaDoorSp5
import Derived.StillTailTactics
import Derived.Deep.RegionHeld3
namespace Go.Proofs.YtmbacegbcccdjaaDoor
open Go.RowKit Spm
set_option linter.unusedVariables false
set_option linter.unusedSimpArgs false

set_option maxRecDepth 100000 in
set_option maxHeartbeats 4000000 in
theorem read04 (A : Option Addr) (c : Nat) (b : List UInt8) (hb : b.length = 8) (hc : 8 ≤ c) (hcm : c ≤ maxLen) (w : World) (hs : SrcB w A b) :
    Calls Tryd.prog 31 #[.slice A 8 c] w fun e w' => e = .returned (.tuple #[(insK b 0).val, .bool (mayS (insK b 0))]) ∧ Below w.heap.size w w' := by
  obtain ⟨bb, off, rfl, hcell⟩ := hs (by intro h; rw [h] at hb; simp at hb)
  have hcl : ∀ j, j < 8 → w.cell? ⟨bb, off + j, none⟩ = some (.int .u8 (byI b j)) := fun j hj => by
    obtain ⟨x, hx, hxx⟩ := byI_cell (b := b) (j := j) (by omega)
    rw [← hxx]
    exact hcell j x hx
  have hbb : bb < w.heap.size := block_lt_of_cell (hcl 0 (by omega))
  unfold maxLen at hcm
  have HINS : Hid (insK b 0 = ⟨byI b 0, byI b 1, byI b 2, byI b 3, i32S (byI b 4 + 256 * byI b 5 + 65536 * byI b 6 + 16777216 * byI b 7)⟩) := Lib.hid rfl
  have r0 := byI_rng b 0
  have r1 := byI_rng b 1
  have r2 := byI_rng b 2
  have r3 := byI_rng b 3
  have r4 := byI_rng b 4
  have r5 := byI_rng b 5
  have r6 := byI_rng b 6
  have r7 := byI_rng b 7
  have k0 := hcl 0 (by decide)
  have k1 := hcl 1 (by decide)
  have k2 := hcl 2 (by decide)
  have k3 := hcl 3 (by decide)
  have k4 := hcl 4 (by decide)
  have k5 := hcl 5 (by decide)
  have k6 := hcl 6 (by decide)
  have k7 := hcl 7 (by decide)
  rw [Nat.add_zero] at k0
  generalize byI b 0 = x0 at HINS r0 k0 ⊢
  generalize byI b 1 = x1 at HINS r1 k1 ⊢
  generalize byI b 2 = x2 at HINS r2 k2 ⊢
  generalize byI b 3 = x3 at HINS r3 k3 ⊢
  generalize byI b 4 = x4 at HINS r4 k4 ⊢
  generalize byI b 5 = x5 at HINS r5 k5 ⊢
  generalize byI b 6 = x6 at HINS r6 k6 ⊢
  generalize byI b 7 = x7 at HINS r7 k7 ⊢
  have HCL := Lib.hid (And.intro k0 (And.intro k1 (And.intro k2 (And.intro k3 (And.intro k4 (And.intro k5 (And.intro k6 k7)))))))
  clear hcl hcell hs hb k0 k1 k2 k3 k4 k5 k6 k7
  obtain ⟨i0, hi, hz0, hz1, hz2⟩ := info_parts ins_info
  have HI := Lib.hid (And.intro hi (And.intro hz0 (And.intro hz1 hz2))); clear hi hz0 hz1 hz2
  have HMAY := Lib.hid (fun i w => rmay_any i w)
  have M0 := Lib.hid ((Has.start (Below.refl w.heap.size w) (Nat.le_refl _)).newcel 39 #[.int .i64 0, .int .i64 0, .int .i64 0, .int .i64 0, .int .i64 0])
  go_enter Tryd.func31, Tryd.ntmps31
  go_upto_region 1 with (fail)
  have hWc : ∀ j, (w.alloc (.cells #[.int .i64 0, .int .i64 0, .int .i64 0, .int .i64 0, .int .i64 0] 39)).cell? ⟨bb, j, none⟩ = w.cell? ⟨bb, j, none⟩ := fun j => World.cell?_alloc_lt _ _ _ hbb
  have hbW : bb < (w.alloc (.cells #[.int .i64 0, .int .i64 0, .int .i64 0, .int .i64 0, .int .i64 0] 39)).heap.size := by simp; omega
  have hbq : bb ≠ w.heap.size := Nat.ne_of_lt hbb
  clear hbb
  obtain ⟨W, hW⟩ : ∃ W, (w.alloc (.cells #[.int .i64 0, .int .i64 0, .int .i64 0, .int .i64 0, .int .i64 0] 39)) = W := ⟨_, rfl⟩
  rw [hW] at M0 hWc hbW ⊢
  clear hW
  rw [← hWc, ← hWc, ← hWc, ← hWc, ← hWc, ← hWc, ← hWc, ← hWc] at HCL
  clear hWc
  generalize hB : w.heap.size = b0 at M0 hbq ⊢
  have HB := Lib.hid hB
  clear hB
  have M1 : Hid (Has b0 w W (Star (Cel b0 39 #[.int .i64 0, .int .i64 0, .int .i64 0, .int .i64 0, .int .i64 0]) Emp)) := M0
  clear M0
  obtain ⟨k0, k1, k2, k3, k4, k5, k6, k7⟩ := HCL.out
  obtain ⟨N, hN⟩ : ∃ N, x4 + 256 * x5 + 65536 * x6 + 16777216 * x7 = N := ⟨_, rfl⟩
  have hN0 : 0 ≤ N := by omega
  have hN1 : N < 4294967296 := by omega
  rw [hN] at HINS
  by_cases hge : 2147483648 ≤ N
  · have hbd : decide (2147483648 ≤ N) = true := decide_eq_true hge
    have hIS : i32S N = N - 4294967296 := by unfold i32S; rw [if_pos hge]
    rw [hIS] at HINS
    go_wp2_with fail
    go_quiet (fail)
    try simp only [hN]
    go_wp2_with fail
    obtain ⟨W2, hW2⟩ : ∃ W2, W.drewN nq = W2 := ⟨_, rfl⟩
    have N0a := Lib.hid (M1.out.stay (below_drewN (Below.refl _ _) nq))
    have hb2 : bb < W2.drew.heap.size := by rw [← hW2]; exact hbW
    rw [hW2] at N0a
    have k0 : W2.drew.cell? ⟨bb, off, none⟩ = some (.int .u8 x0) := by rw [← hW2]; exact HCL.out.1
    have k1 : W2.drew.cell? ⟨bb, off + 1, none⟩ = some (.int .u8 x1) := by rw [← hW2]; exact HCL.out.2.1
    have k2 : W2.drew.cell? ⟨bb, off + 2, none⟩ = some (.int .u8 x2) := by rw [← hW2]; exact HCL.out.2.2.1
    have k3 : W2.drew.cell? ⟨bb, off + 3, none⟩ = some (.int .u8 x3) := by rw [← hW2]; exact HCL.out.2.2.2.1
    have N0 := Lib.hid (N0a.out.stay (Below.refl _ _).drew)
    try rw [hW2]
    clear hW2 N0a HCL
    have i64w : ∀ n, IntKind.i64.wrap n = wrap64 n := fun n => by first | exact IntWalk.i64_left _ | exact i64_left _ | rfl
    obtain ⟨I, hI⟩ : ∃ I, N - 4294967296 = I := ⟨_, rfl⟩
    try rw [hI]
    rw [hI] at HINS
    clear hI
    refine wp_region_noPanic ?_
    refine wp_region_held_drew (S := fun X => X.cell? ⟨bb, off, none⟩ = some (.int .u8 x0) ∧ X.cell? ⟨bb, off + 1, none⟩ = some (.int .u8 x1) ∧ X.cell? ⟨bb, off + 2, none⟩ = some (.int .u8 x2) ∧ X.cell? ⟨bb, off + 3, none⟩ = some (.int .u8 x3)) (by kernel_rfl) ⟨k0, k1, k2, k3⟩ ?_
    intro hS
    refine wpAnyH_take (i := 0) (v := .slice (some ⟨bb, off, none⟩) 8 c) rfl (by kernel_rfl) (by kernel_rfl) (by kernel_rfl) (fun _ _ _ h => h) (yields_pure rfl (fun w => by kernel_rfl)) hS ?_
    refine wpAnyH_take (i := 1) (v := .pointer (some ⟨bb, off, none⟩)) rfl (by kernel_rfl) (by kernel_rfl) (by kernel_rfl) (fun _ _ _ h => h) (yields_pure rfl (fun w => by kernel_rfl)) hS ?_
    refine wpAnyH_take (i := 2) rfl (by kernel_rfl) (by kernel_rfl) (by kernel_rfl) (fun _ _ _ h => h) (yields_load_cell rfl 5 _ rfl bb off (by kernel_rfl) (.int .u8 x0) (fun w h => h.1) _ Tryd.underlying5 rfl) hS ?_
    refine wpAnyH_take (i := 3) rfl (by kernel_rfl) (by kernel_rfl) (by kernel_rfl) (fun _ _ _ h => h) (yields_convert rfl 5 37 _ rfl .u8 .i64 x0 (by kernel_rfl) (by kernel_rfl) Tryd.underlying37 (by rw [i64w]; unfold wrap64; omega)) hS ?_
    refine wpAnyH_take (i := 4) (v := .slice (some ⟨bb, off, none⟩) 8 c) rfl (by kernel_rfl) (by kernel_rfl) (by kernel_rfl) (fun _ _ _ h => h) (yields_pure rfl (fun w => by kernel_rfl)) hS ?_
    refine wpAnyH_take (i := 5) (v := .pointer (some ⟨bb, off + 1, none⟩)) rfl (by kernel_rfl) (by kernel_rfl) (by kernel_rfl) (fun _ _ _ h => h) (yields_pure rfl (fun w => by kernel_rfl)) hS ?_
    refine wpAnyH_take (i := 6) rfl (by kernel_rfl) (by kernel_rfl) (by kernel_rfl) (fun _ _ _ h => h) (yields_load_cell rfl 5 _ rfl bb (off + 1) (by kernel_rfl) (.int .u8 x1) (fun w h => h.2.1) _ Tryd.underlying5 rfl) hS ?_
    refine wpAnyH_take (i := 7) rfl (by kernel_rfl) (by kernel_rfl) (by kernel_rfl) (fun _ _ _ h => h) (yields_convert rfl 5 3 _ rfl .u8 .i64 x1 (by kernel_rfl) (by kernel_rfl) Tryd.underlying3 (by rw [i64w]; unfold wrap64; omega)) hS ?_
    refine wpAnyH_take (i := 8) (v := .slice (some ⟨bb, off, none⟩) 8 c) rfl (by kernel_rfl) (by kernel_rfl) (by kernel_rfl) (fun _ _ _ h => h) (yields_pure rfl (fun w => by kernel_rfl)) hS ?_
    refine wpAnyH_take (i := 9) (v := .pointer (some ⟨bb, off + 2, none⟩)) rfl (by kernel_rfl) (by kernel_rfl) (by kernel_rfl) (fun _ _ _ h => h) (yields_pure rfl (fun w => by kernel_rfl)) hS ?_
    refine wpAnyH_take (i := 10) rfl (by kernel_rfl) (by kernel_rfl) (by kernel_rfl) (fun _ _ _ h => h) (yields_load_cell rfl 5 _ rfl bb (off + 2) (by kernel_rfl) (.int .u8 x2) (fun w h => h.2.2.1) _ Tryd.underlying5 rfl) hS ?_
    refine wpAnyH_take (i := 11) rfl (by kernel_rfl) (by kernel_rfl) (by kernel_rfl) (fun _ _ _ h => h) (yields_convert rfl 5 3 _ rfl .u8 .i64 x2 (by kernel_rfl) (by kernel_rfl) Tryd.underlying3 (by rw [i64w]; unfold wrap64; omega)) hS ?_
    refine wpAnyH_take (i := 12) (v := .slice (some ⟨bb, off, none⟩) 8 c) rfl (by kernel_rfl) (by kernel_rfl) (by kernel_rfl) (fun _ _ _ h => h) (yields_pure rfl (fun w => by kernel_rfl)) hS ?_
    refine wpAnyH_take (i := 13) (v := .pointer (some ⟨bb, off + 3, none⟩)) rfl (by kernel_rfl) (by kernel_rfl) (by kernel_rfl) (fun _ _ _ h => h) (yields_pure rfl (fun w => by kernel_rfl)) hS ?_
    refine wpAnyH_take (i := 14) rfl (by kernel_rfl) (by kernel_rfl) (by kernel_rfl) (fun _ _ _ h => h) (yields_load_cell rfl 5 _ rfl bb (off + 3) (by kernel_rfl) (.int .u8 x3) (fun w h => h.2.2.2) _ Tryd.underlying5 rfl) hS ?_
    refine wpAnyH_take (i := 15) rfl (by kernel_rfl) (by kernel_rfl) (by kernel_rfl) (fun _ _ _ h => h) (yields_convert rfl 5 3 _ rfl .u8 .i64 x3 (by kernel_rfl) (by kernel_rfl) Tryd.underlying3 (by rw [i64w]; unfold wrap64; omega)) hS ?_
    refine wpAnyH_take (i := 16) (v := .int .i64 I) rfl (by kernel_rfl) (by kernel_rfl) (by kernel_rfl) (fun _ _ _ h => h) (yields_pure rfl (fun w => by kernel_rfl)) hS ?_
    refine wpAnyH_take (i := 17) (v := .agg #[.int .i64 x0, .int .i64 x1, .int .i64 x2, .int .i64 x3, .int .i64 I]) rfl (by kernel_rfl) (by kernel_rfl) (by kernel_rfl) (fun _ _ _ h => h) (yields_pure rfl (fun w => by kernel_rfl)) hS ?_
    have N1 := Lib.hid (N0.out.newcel 39 #[.int .i64 0, .int .i64 0, .int .i64 0, .int .i64 0, .int .i64 0])
    refine wpAnyH_all (rs := [18]) (by kernel_rfl) (by simp) ?_
    intro i hi
    obtain rfl : i = 18 := by simpa using hi
    refine wpOp_run (v := .pointer (some ⟨W2.drew.heap.size, 0, none⟩)) (w' := W2.drew.alloc (.cells #[.int .i64 0, .int .i64 0, .int .i64 0, .int .i64 0, .int .i64 0] 39)) rfl rfl (by kernel_rfl) ?_
    have k0 : (W2.drew.alloc (.cells #[.int .i64 0, .int .i64 0, .int .i64 0, .int .i64 0, .int .i64 0] 39)).cell? ⟨bb, off, none⟩ = some (.int .u8 x0) := Lib.cell?_alloc_some _ k0
    have k1 : (W2.drew.alloc (.cells #[.int .i64 0, .int .i64 0, .int .i64 0, .int .i64 0, .int .i64 0] 39)).cell? ⟨bb, off + 1, none⟩ = some (.int .u8 x1) := Lib.cell?_alloc_some _ k1
    have k2 : (W2.drew.alloc (.cells #[.int .i64 0, .int .i64 0, .int .i64 0, .int .i64 0, .int .i64 0] 39)).cell? ⟨bb, off + 2, none⟩ = some (.int .u8 x2) := Lib.cell?_alloc_some _ k2
    have k3 : (W2.drew.alloc (.cells #[.int .i64 0, .int .i64 0, .int .i64 0, .int .i64 0, .int .i64 0] 39)).cell? ⟨bb, off + 3, none⟩ = some (.int .u8 x3) := Lib.cell?_alloc_some _ k3
    clear hS
    have hS : (fun X => X.cell? ⟨bb, off, none⟩ = some (.int .u8 x0) ∧ X.cell? ⟨bb, off + 1, none⟩ = some (.int .u8 x1) ∧ X.cell? ⟨bb, off + 2, none⟩ = some (.int .u8 x2) ∧ X.cell? ⟨bb, off + 3, none⟩ = some (.int .u8 x3)) (W2.drew.alloc (.cells #[.int .i64 0, .int .i64 0, .int .i64 0, .int .i64 0, .int .i64 0] 39)) := ⟨k0, k1, k2, k3⟩
    refine ⟨hS, ?_⟩
    refine wpAnyH_all (rs := [19]) (by kernel_rfl) (by simp) ?_
    intro i hi
    obtain rfl : i = 19 := by simpa using hi
    have N2 := Lib.hid (N1.out.rowc W2.drew.heap.size #[.int .i64 x0, .int .i64 x1, .int .i64 x2, .int .i64 x3, .int .i64 I])
    refine wpOp_store_row rfl rfl 39 _ _ rfl W2.drew.heap.size #[.int .i64 x0, .int .i64 x1, .int .i64 x2, .int .i64 x3, .int .i64 I] (by kernel_rfl) (by kernel_rfl) 39 #[.int .i64 0, .int .i64 0, .int .i64 0, .int .i64 0, .int .i64 0] (N1.out.getc W2.drew.heap.size) (by kernel_rfl) rfl (by kernel_rfl) ?_
    have hne : bb ≠ W2.drew.heap.size := Nat.ne_of_lt hb2
    refine ⟨⟨(cell_setRow_other _ _ _ _ hne).trans k0, (cell_setRow_other _ _ _ _ hne).trans k1, (cell_setRow_other _ _ _ _ hne).trans k2, (cell_setRow_other _ _ _ _ hne).trans k3⟩, ?_⟩
    refine wpAnyH_done (by kernel_rfl) ?_ _
    refine NoPanic.normal ?_
    clear hS k0 k1 k2 k3 N1 N0
    obtain ⟨W3, hW3⟩ : ∃ W3, (W2.drew.alloc (.cells #[.int .i64 0, .int .i64 0, .int .i64 0, .int .i64 0, .int .i64 0] 39)).setRow W2.drew.heap.size #[.int .i64 x0, .int .i64 x1, .int .i64 x2, .int .i64 x3, .int .i64 I] = W3 := ⟨_, rfl⟩
    have N3 := N2
    rw [hW3] at N3 ⊢
    clear hW3 N2 hb2 hne
    generalize W2.drew.heap.size = b5 at N3 ⊢
    have CM := Lib.hid (HMAY.out ⟨x0, x1, x2, x3, I⟩ W3.drew)
    go_wp2_with fail
    have N4 := Lib.hid (N3.out.stay (Below.refl _ _).drew)
    clear N3
    refine wp_region_noPanic ?_
    refine wp_region_held_drew (S := fun X => Blk X b5 39 #[.int .i64 x0, .int .i64 x1, .int .i64 x2, .int .i64 x3, .int .i64 I]) (by kernel_rfl) (N4.out.getc b5) ?_
    intro hS
    refine wpAnyH_take (i := 0) rfl (by kernel_rfl) (by kernel_rfl) (by kernel_rfl) (fun _ _ _ h => h) (yields_load_row rfl 39 _ rfl b5 (by kernel_rfl) 39 #[.int .i64 x0, .int .i64 x1, .int .i64 x2, .int .i64 x3, .int .i64 I] _ (fun w h => h) Tryd.underlying39 rfl (by kernel_rfl)) hS ?_
    refine wpAnyH_take (i := 1) rfl (by kernel_rfl) (by kernel_rfl) (by kernel_rfl) (fun _ _ _ h => h) (yields_load_row rfl 39 _ rfl b5 (by kernel_rfl) 39 #[.int .i64 x0, .int .i64 x1, .int .i64 x2, .int .i64 x3, .int .i64 I] _ (fun w h => h) Tryd.underlying39 rfl (by kernel_rfl)) hS ?_
    refine wpAnyH_all (rs := [2]) (by kernel_rfl) (by simp) ?_
    intro i hi
    obtain rfl : i = 2 := by simpa using hi
    refine wpOp_call rfl rfl _ _ _ rfl _ (by kernel_rfl) ((CM.out).mono ?_)
    rintro e w9 ⟨rfl, hb9⟩
    have P1 := Lib.hid (N4.out.stay hb9)
    clear CM N4 hS hb9
    have hS : Blk w9 b5 39 #[.int .i64 x0, .int .i64 x1, .int .i64 x2, .int .i64 x3, .int .i64 I] := P1.out.getc b5
    refine ⟨_, rfl, hS, ?_⟩
    refine wpAnyH_all (rs := [3]) (by kernel_rfl) (by simp) ?_
    intro i hi
    obtain rfl : i = 3 := by simpa using hi
    have P2 := Lib.hid (P1.out.rowc b0 #[.int .i64 x0, .int .i64 x1, .int .i64 x2, .int .i64 x3, .int .i64 I])
    refine wpOp_store_row rfl rfl 39 _ _ rfl b0 #[.int .i64 x0, .int .i64 x1, .int .i64 x2, .int .i64 x3, .int .i64 I] (by kernel_rfl) (by kernel_rfl) 39 #[.int .i64 0, .int .i64 0, .int .i64 0, .int .i64 0, .int .i64 0] (P1.out.getc b0) (by kernel_rfl) rfl (by kernel_rfl) ?_
    refine ⟨P2.out.getc b5, ?_⟩
    refine wpAnyH_take (i := 4) (v := .bool (mayS ⟨x0, x1, x2, x3, I⟩)) rfl (by kernel_rfl) (by kernel_rfl) (by kernel_rfl) (fun _ _ _ h => h) (yields_pure rfl (fun w => by kernel_rfl)) (P2.out.getc b5) ?_
    refine wpAnyH_done (by kernel_rfl) ?_ _
    refine NoPanic.normal ?_
    go_wp2
    try simp only [Exit.inBlock, Exit.then]
    refine bodyPost_ret (results_cellT_row (p := 2) (q := 3) (ty := 39) rfl _ _ b0 39 #[.int .i64 x0, .int .i64 x1, .int .i64 x2, .int .i64 x3, .int .i64 I] _ (by kernel_rfl) (P2.out.getc b0) Tryd.underlying39 rfl (by kernel_rfl) (.bool (mayS ⟨x0, x1, x2, x3, I⟩)) (by kernel_rfl)) rfl ?_
    exact ⟨by rw [HINS.out]; rfl, by rw [HB.out]; exact P2.out.bel⟩
  · have hbd : decide (2147483648 ≤ N) = false := decide_eq_false hge
    have hIS : i32S N = N := by unfold i32S; rw [if_neg hge]
    rw [hIS] at HINS
    go_wp2_with fail
    go_quiet (fail)
    try simp only [hN]
    go_wp2_with fail
    obtain ⟨W2, hW2⟩ : ∃ W2, W.drewN nq = W2 := ⟨_, rfl⟩
    have N0a := Lib.hid (M1.out.stay (below_drewN (Below.refl _ _) nq))
    have hb2 : bb < W2.drew.heap.size := by rw [← hW2]; exact hbW
    rw [hW2] at N0a
    have k0 : W2.drew.cell? ⟨bb, off, none⟩ = some (.int .u8 x0) := by rw [← hW2]; exact HCL.out.1
    have k1 : W2.drew.cell? ⟨bb, off + 1, none⟩ = some (.int .u8 x1) := by rw [← hW2]; exact HCL.out.2.1
    have k2 : W2.drew.cell? ⟨bb, off + 2, none⟩ = some (.int .u8 x2) := by rw [← hW2]; exact HCL.out.2.2.1
    have k3 : W2.drew.cell? ⟨bb, off + 3, none⟩ = some (.int .u8 x3) := by rw [← hW2]; exact HCL.out.2.2.2.1
    have N0 := Lib.hid (N0a.out.stay (Below.refl _ _).drew)
    try rw [hW2]
    clear hW2 N0a HCL
    have i64w : ∀ n, IntKind.i64.wrap n = wrap64 n := fun n => by first | exact IntWalk.i64_left _ | exact i64_left _ | rfl
    obtain ⟨I, hI⟩ : ∃ I, N = I := ⟨_, rfl⟩
    try rw [hI]
    rw [hI] at HINS
    clear hI
    refine wp_region_noPanic ?_
    refine wp_region_held_drew (S := fun X => X.cell? ⟨bb, off, none⟩ = some (.int .u8 x0) ∧ X.cell? ⟨bb, off + 1, none⟩ = some (.int .u8 x1) ∧ X.cell? ⟨bb, off + 2, none⟩ = some (.int .u8 x2) ∧ X.cell? ⟨bb, off + 3, none⟩ = some (.int .u8 x3)) (by kernel_rfl) ⟨k0, k1, k2, k3⟩ ?_
    intro hS
    refine wpAnyH_take (i := 0) (v := .slice (some ⟨bb, off, none⟩) 8 c) rfl (by kernel_rfl) (by kernel_rfl) (by kernel_rfl) (fun _ _ _ h => h) (yields_pure rfl (fun w => by kernel_rfl)) hS ?_
    refine wpAnyH_take (i := 1) (v := .pointer (some ⟨bb, off, none⟩)) rfl (by kernel_rfl) (by kernel_rfl) (by kernel_rfl) (fun _ _ _ h => h) (yields_pure rfl (fun w => by kernel_rfl)) hS ?_
    refine wpAnyH_take (i := 2) rfl (by kernel_rfl) (by kernel_rfl) (by kernel_rfl) (fun _ _ _ h => h) (yields_load_cell rfl 5 _ rfl bb off (by kernel_rfl) (.int .u8 x0) (fun w h => h.1) _ Tryd.underlying5 rfl) hS ?_
    refine wpAnyH_take (i := 3) rfl (by kernel_rfl) (by kernel_rfl) (by kernel_rfl) (fun _ _ _ h => h) (yields_convert rfl 5 37 _ rfl .u8 .i64 x0 (by kernel_rfl) (by kernel_rfl) Tryd.underlying37 (by rw [i64w]; unfold wrap64; omega)) hS ?_
    refine wpAnyH_take (i := 4) (v := .slice (some ⟨bb, off, none⟩) 8 c) rfl (by kernel_rfl) (by kernel_rfl) (by kernel_rfl) (fun _ _ _ h => h) (yields_pure rfl (fun w => by kernel_rfl)) hS ?_
    refine wpAnyH_take (i := 5) (v := .pointer (some ⟨bb, off + 1, none⟩)) rfl (by kernel_rfl) (by kernel_rfl) (by kernel_rfl) (fun _ _ _ h => h) (yields_pure rfl (fun w => by kernel_rfl)) hS ?_
    refine wpAnyH_take (i := 6) rfl (by kernel_rfl) (by kernel_rfl) (by kernel_rfl) (fun _ _ _ h => h) (yields_load_cell rfl 5 _ rfl bb (off + 1) (by kernel_rfl) (.int .u8 x1) (fun w h => h.2.1) _ Tryd.underlying5 rfl) hS ?_
    refine wpAnyH_take (i := 7) rfl (by kernel_rfl) (by kernel_rfl) (by kernel_rfl) (fun _ _ _ h => h) (yields_convert rfl 5 3 _ rfl .u8 .i64 x1 (by kernel_rfl) (by kernel_rfl) Tryd.underlying3 (by rw [i64w]; unfold wrap64; omega)) hS ?_
    refine wpAnyH_take (i := 8) (v := .slice (some ⟨bb, off, none⟩) 8 c) rfl (by kernel_rfl) (by kernel_rfl) (by kernel_rfl) (fun _ _ _ h => h) (yields_pure rfl (fun w => by kernel_rfl)) hS ?_
    refine wpAnyH_take (i := 9) (v := .pointer (some ⟨bb, off + 2, none⟩)) rfl (by kernel_rfl) (by kernel_rfl) (by kernel_rfl) (fun _ _ _ h => h) (yields_pure rfl (fun w => by kernel_rfl)) hS ?_
    refine wpAnyH_take (i := 10) rfl (by kernel_rfl) (by kernel_rfl) (by kernel_rfl) (fun _ _ _ h => h) (yields_load_cell rfl 5 _ rfl bb (off + 2) (by kernel_rfl) (.int .u8 x2) (fun w h => h.2.2.1) _ Tryd.underlying5 rfl) hS ?_
    refine wpAnyH_take (i := 11) rfl (by kernel_rfl) (by kernel_rfl) (by kernel_rfl) (fun _ _ _ h => h) (yields_convert rfl 5 3 _ rfl .u8 .i64 x2 (by kernel_rfl) (by kernel_rfl) Tryd.underlying3 (by rw [i64w]; unfold wrap64; omega)) hS ?_
    refine wpAnyH_take (i := 12) (v := .slice (some ⟨bb, off, none⟩) 8 c) rfl (by kernel_rfl) (by kernel_rfl) (by kernel_rfl) (fun _ _ _ h => h) (yields_pure rfl (fun w => by kernel_rfl)) hS ?_
    refine wpAnyH_take (i := 13) (v := .pointer (some ⟨bb, off + 3, none⟩)) rfl (by kernel_rfl) (by kernel_rfl) (by kernel_rfl) (fun _ _ _ h => h) (yields_pure rfl (fun w => by kernel_rfl)) hS ?_
    refine wpAnyH_take (i := 14) rfl (by kernel_rfl) (by kernel_rfl) (by kernel_rfl) (fun _ _ _ h => h) (yields_load_cell rfl 5 _ rfl bb (off + 3) (by kernel_rfl) (.int .u8 x3) (fun w h => h.2.2.2) _ Tryd.underlying5 rfl) hS ?_
    refine wpAnyH_take (i := 15) rfl (by kernel_rfl) (by kernel_rfl) (by kernel_rfl) (fun _ _ _ h => h) (yields_convert rfl 5 3 _ rfl .u8 .i64 x3 (by kernel_rfl) (by kernel_rfl) Tryd.underlying3 (by rw [i64w]; unfold wrap64; omega)) hS ?_
    refine wpAnyH_take (i := 16) (v := .int .i64 I) rfl (by kernel_rfl) (by kernel_rfl) (by kernel_rfl) (fun _ _ _ h => h) (yields_pure rfl (fun w => by kernel_rfl)) hS ?_
    refine wpAnyH_take (i := 17) (v := .agg #[.int .i64 x0, .int .i64 x1, .int .i64 x2, .int .i64 x3, .int .i64 I]) rfl (by kernel_rfl) (by kernel_rfl) (by kernel_rfl) (fun _ _ _ h => h) (yields_pure rfl (fun w => by kernel_rfl)) hS ?_
    have N1 := Lib.hid (N0.out.newcel 39 #[.int .i64 0, .int .i64 0, .int .i64 0, .int .i64 0, .int .i64 0])
    refine wpAnyH_all (rs := [18]) (by kernel_rfl) (by simp) ?_
    intro i hi
    obtain rfl : i = 18 := by simpa using hi
    refine wpOp_run (v := .pointer (some ⟨W2.drew.heap.size, 0, none⟩)) (w' := W2.drew.alloc (.cells #[.int .i64 0, .int .i64 0, .int .i64 0, .int .i64 0, .int .i64 0] 39)) rfl rfl (by kernel_rfl) ?_
    have k0 : (W2.drew.alloc (.cells #[.int .i64 0, .int .i64 0, .int .i64 0, .int .i64 0, .int .i64 0] 39)).cell? ⟨bb, off, none⟩ = some (.int .u8 x0) := Lib.cell?_alloc_some _ k0
    have k1 : (W2.drew.alloc (.cells #[.int .i64 0, .int .i64 0, .int .i64 0, .int .i64 0, .int .i64 0] 39)).cell? ⟨bb, off + 1, none⟩ = some (.int .u8 x1) := Lib.cell?_alloc_some _ k1
    have k2 : (W2.drew.alloc (.cells #[.int .i64 0, .int .i64 0, .int .i64 0, .int .i64 0, .int .i64 0] 39)).cell? ⟨bb, off + 2, none⟩ = some (.int .u8 x2) := Lib.cell?_alloc_some _ k2
    have k3 : (W2.drew.alloc (.cells #[.int .i64 0, .int .i64 0, .int .i64 0, .int .i64 0, .int .i64 0] 39)).cell? ⟨bb, off + 3, none⟩ = some (.int .u8 x3) := Lib.cell?_alloc_some _ k3
    clear hS
    have hS : (fun X => X.cell? ⟨bb, off, none⟩ = some (.int .u8 x0) ∧ X.cell? ⟨bb, off + 1, none⟩ = some (.int .u8 x1) ∧ X.cell? ⟨bb, off + 2, none⟩ = some (.int .u8 x2) ∧ X.cell? ⟨bb, off + 3, none⟩ = some (.int .u8 x3)) (W2.drew.alloc (.cells #[.int .i64 0, .int .i64 0, .int .i64 0, .int .i64 0, .int .i64 0] 39)) := ⟨k0, k1, k2, k3⟩
    refine ⟨hS, ?_⟩
    refine wpAnyH_all (rs := [19]) (by kernel_rfl) (by simp) ?_
    intro i hi
    obtain rfl : i = 19 := by simpa using hi
    have N2 := Lib.hid (N1.out.rowc W2.drew.heap.size #[.int .i64 x0, .int .i64 x1, .int .i64 x2, .int .i64 x3, .int .i64 I])
    refine wpOp_store_row rfl rfl 39 _ _ rfl W2.drew.heap.size #[.int .i64 x0, .int .i64 x1, .int .i64 x2, .int .i64 x3, .int .i64 I] (by kernel_rfl) (by kernel_rfl) 39 #[.int .i64 0, .int .i64 0, .int .i64 0, .int .i64 0, .int .i64 0] (N1.out.getc W2.drew.heap.size) (by kernel_rfl) rfl (by kernel_rfl) ?_
    have hne : bb ≠ W2.drew.heap.size := Nat.ne_of_lt hb2
    refine ⟨⟨(cell_setRow_other _ _ _ _ hne).trans k0, (cell_setRow_other _ _ _ _ hne).trans k1, (cell_setRow_other _ _ _ _ hne).trans k2, (cell_setRow_other _ _ _ _ hne).trans k3⟩, ?_⟩
    refine wpAnyH_done (by kernel_rfl) ?_ _
    refine NoPanic.normal ?_
    clear hS k0 k1 k2 k3 N1 N0
    obtain ⟨W3, hW3⟩ : ∃ W3, (W2.drew.alloc (.cells #[.int .i64 0, .int .i64 0, .int .i64 0, .int .i64 0, .int .i64 0] 39)).setRow W2.drew.heap.size #[.int .i64 x0, .int .i64 x1, .int .i64 x2, .int .i64 x3, .int .i64 I] = W3 := ⟨_, rfl⟩
    have N3 := N2
    rw [hW3] at N3 ⊢
    clear hW3 N2 hb2 hne
    generalize W2.drew.heap.size = b5 at N3 ⊢
    have CM := Lib.hid (HMAY.out ⟨x0, x1, x2, x3, I⟩ W3.drew)
    go_wp2_with fail
    have N4 := Lib.hid (N3.out.stay (Below.refl _ _).drew)
    clear N3
    refine wp_region_noPanic ?_
    refine wp_region_held_drew (S := fun X => Blk X b5 39 #[.int .i64 x0, .int .i64 x1, .int .i64 x2, .int .i64 x3, .int .i64 I]) (by kernel_rfl) (N4.out.getc b5) ?_
    intro hS
    refine wpAnyH_take (i := 0) rfl (by kernel_rfl) (by kernel_rfl) (by kernel_rfl) (fun _ _ _ h => h) (yields_load_row rfl 39 _ rfl b5 (by kernel_rfl) 39 #[.int .i64 x0, .int .i64 x1, .int .i64 x2, .int .i64 x3, .int .i64 I] _ (fun w h => h) Tryd.underlying39 rfl (by kernel_rfl)) hS ?_
    refine wpAnyH_take (i := 1) rfl (by kernel_rfl) (by kernel_rfl) (by kernel_rfl) (fun _ _ _ h => h) (yields_load_row rfl 39 _ rfl b5 (by kernel_rfl) 39 #[.int .i64 x0, .int .i64 x1, .int .i64 x2, .int .i64 x3, .int .i64 I] _ (fun w h => h) Tryd.underlying39 rfl (by kernel_rfl)) hS ?_
    refine wpAnyH_all (rs := [2]) (by kernel_rfl) (by simp) ?_
    intro i hi
    obtain rfl : i = 2 := by simpa using hi
    refine wpOp_call rfl rfl _ _ _ rfl _ (by kernel_rfl) ((CM.out).mono ?_)
    rintro e w9 ⟨rfl, hb9⟩
    have P1 := Lib.hid (N4.out.stay hb9)
    clear CM N4 hS hb9
    have hS : Blk w9 b5 39 #[.int .i64 x0, .int .i64 x1, .int .i64 x2, .int .i64 x3, .int .i64 I] := P1.out.getc b5
    refine ⟨_, rfl, hS, ?_⟩
    refine wpAnyH_all (rs := [3]) (by kernel_rfl) (by simp) ?_
    intro i hi
    obtain rfl : i = 3 := by simpa using hi
    have P2 := Lib.hid (P1.out.rowc b0 #[.int .i64 x0, .int .i64 x1, .int .i64 x2, .int .i64 x3, .int .i64 I])
    refine wpOp_store_row rfl rfl 39 _ _ rfl b0 #[.int .i64 x0, .int .i64 x1, .int .i64 x2, .int .i64 x3, .int .i64 I] (by kernel_rfl) (by kernel_rfl) 39 #[.int .i64 0, .int .i64 0, .int .i64 0, .int .i64 0, .int .i64 0] (P1.out.getc b0) (by kernel_rfl) rfl (by kernel_rfl) ?_
    refine ⟨P2.out.getc b5, ?_⟩
    refine wpAnyH_take (i := 4) (v := .bool (mayS ⟨x0, x1, x2, x3, I⟩)) rfl (by kernel_rfl) (by kernel_rfl) (by kernel_rfl) (fun _ _ _ h => h) (yields_pure rfl (fun w => by kernel_rfl)) (P2.out.getc b5) ?_
    refine wpAnyH_done (by kernel_rfl) ?_ _
    refine NoPanic.normal ?_
    go_wp2
    try simp only [Exit.inBlock, Exit.then]
    refine bodyPost_ret (results_cellT_row (p := 2) (q := 3) (ty := 39) rfl _ _ b0 39 #[.int .i64 x0, .int .i64 x1, .int .i64 x2, .int .i64 x3, .int .i64 I] _ (by kernel_rfl) (P2.out.getc b0) Tryd.underlying39 rfl (by kernel_rfl) (.bool (mayS ⟨x0, x1, x2, x3, I⟩)) (by kernel_rfl)) rfl ?_
    exact ⟨by rw [HINS.out]; rfl, by rw [HB.out]; exact P2.out.bel⟩
end Go.Proofs.YtmbacegbcccdjaaDoor
