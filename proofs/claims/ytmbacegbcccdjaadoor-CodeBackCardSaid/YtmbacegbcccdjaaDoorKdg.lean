/-
  Layer 4: the instructions that bytes are: the program's Decode, at longer bytes. Printed by gen_kdg.py.
  Conditions: none. (My own text.)
-/
import Derived.Test.YtmbacegbcccdjaaDoorCdf
import Derived.Deep.AppendLies
import Derived.BigRegion
import Derived.StillTailTactics
import Derived.Deep.RegionLaw
import Derived.Deep.RegionHeld3
namespace Go.Proofs.YtmbacegbcccdjaaDoor
open Go.RowKit Spm
set_option linter.unusedVariables false
set_option linter.unusedSimpArgs false

set_option maxRecDepth 100000 in
set_option maxHeartbeats 4000000 in
theorem decode_big (A : Option Addr) (c : Nat) (b : List UInt8) (hbl : b.length ≤ 28147497670656) (hbc : b.length ≤ c) (hcm : c ≤ maxLen) (w : World) (hs : SrcB w A b) :
    Calls Tryd.prog 16 #[.slice A b.length c] w (DecE b w) := by
  obtain ⟨n, hn⟩ : ∃ n, b.length = n := ⟨_, rfl⟩
  rw [hn] at hbl hbc ⊢
  unfold maxLen at hcm
  have HN := Lib.hid hn
  have HS := Lib.hid hs
  clear hn hs
  obtain ⟨i0, hi, hz0, hz1, hz2⟩ := info_parts ins_info
  have HI := Lib.hid (And.intro hi (And.intro hz0 (And.intro hz1 hz2))); clear hi hz0 hz1 hz2
  have HC := Lib.hid (fun i w => may_any i w)
  go_enter Tryd.func16, Tryd.ntmps16
  go_wp2_with fail
  go_loopw [0, 4] (fun s v wr => Hid (DInv A b n c w s v wr)) (fun s _ _ => lenV s)
  case atStart => exact Lib.hid ⟨⟨0, A, by omega, rfl, (fun _ bb off h => h), (World.ownsRow_nil _ _ _ _), (fun t ht => absurd ht (Nat.not_lt_zero _)), (Below.refl _ _)⟩⟩
  case round =>
    obtain ⟨k, A', hk, rfl, hA', hown', hok', hbel'⟩ := hrel.out.out
    have hA := Lib.hid hA'
    have hown := Lib.hid hown'
    have hok := Lib.hid hok'
    have hbel := Lib.hid hbel'
    clear hrel hA' hown' hok' hbel'
    by_cases h0 : n = 8 * k
    · have HF : Hid (DecE b w (.returned (.tuple #[u4, .int .i64 0])) wr) := Lib.hid ⟨.inl ⟨⟨by rw [HN.out]; omega, fun t ht => hok.out t (by rw [HN.out] at ht; omega)⟩, _, rfl, by rw [HN.out, show n / 8 = k by omega]; exact hown.out⟩, hbel.out⟩
      have z0 : n - 8 * k = 0 := by omega
      go_wp2
      go_ret2
      exact HF.out
    · by_cases h8 : n < 8 * k + 8
      · have HF : Hid (DecE b w (.returned (.tuple #[.slice none 0 0, .int .i64 40])) wr) := Lib.hid ⟨.inr ⟨fun h => by have := h.1; rw [HN.out] at this; omega, rfl⟩, hbel.out⟩
        have z0 : (0 : Int) < ((n - 8 * k : Nat) : Int) := by omega
        have z1 : ((n - 8 * k : Nat) : Int) < 8 := by omega
        go_wp2
        go_ret2
        exact HF.out
      · obtain ⟨bb, off, rfl, hcell⟩ := HS.out (by intro h; have := HN.out; rw [h] at this; simp at this; omega)
        obtain rfl := hA.out (by omega) bb off rfl
        have hcl : ∀ j, j < 8 → wr.cell? ⟨bb, off + 8 * k + j, none⟩ = some (.int .u8 (byI b (8 * k + j))) := fun j hj => by
          obtain ⟨x, hx, hxx⟩ := byI_cell (b := b) (j := 8 * k + j) (by rw [HN.out]; omega)
          have h1 := hcell (8 * k + j) x hx
          rw [← Nat.add_assoc] at h1
          rw [← hxx]
          exact (hbel.out.cell (p := ⟨bb, off + 8 * k + j, none⟩) (show bb < w.heap.size from block_lt_of_cell h1)).trans h1
        have c0 := hcl 0 (by decide)
        have c1 := hcl 1 (by decide)
        have c2 := hcl 2 (by decide)
        have c3 := hcl 3 (by decide)
        have c4 := hcl 4 (by decide)
        have c5 := hcl 5 (by decide)
        have c6 := hcl 6 (by decide)
        have c7 := hcl 7 (by decide)
        rw [Nat.add_zero] at c0
        have HINS : Hid (insK b k = ⟨byI b (8 * k + 0), byI b (8 * k + 1), byI b (8 * k + 2), byI b (8 * k + 3), i32S (byI b (8 * k + 4) + 256 * byI b (8 * k + 5) + 65536 * byI b (8 * k + 6) + 16777216 * byI b (8 * k + 7))⟩) := Lib.hid rfl
        have r0 := byI_rng b (8 * k + 0)
        have r1 := byI_rng b (8 * k + 1)
        have r2 := byI_rng b (8 * k + 2)
        have r3 := byI_rng b (8 * k + 3)
        have r4 := byI_rng b (8 * k + 4)
        have r5 := byI_rng b (8 * k + 5)
        have r6 := byI_rng b (8 * k + 6)
        have r7 := byI_rng b (8 * k + 7)
        generalize byI b (8 * k + 0) = x0 at *
        generalize byI b (8 * k + 1) = x1 at *
        generalize byI b (8 * k + 2) = x2 at *
        generalize byI b (8 * k + 3) = x3 at *
        generalize byI b (8 * k + 4) = x4 at *
        generalize byI b (8 * k + 5) = x5 at *
        generalize byI b (8 * k + 6) = x6 at *
        generalize byI b (8 * k + 7) = x7 at *
        have j0 : 0 < n - 8 * k := by omega
        have i8 : ¬ (n - 8 * k < 8) := by omega
        have i8' : 8 ≤ n - 8 * k := by omega
        clear hcl hcell
        have hor : bits BinOp.or IntKind.u32 (bits BinOp.or IntKind.u32 (bits BinOp.or IntKind.u32 x4 (x5 * 256)) (x6 * 65536)) (x7 * 16777216) = x4 + x5 * 256 + x6 * 65536 + x7 * 16777216 := by
          have e1 : bits BinOp.or IntKind.u32 x4 (x5 * 256) = x4 + x5 * 256 := or_k 8 256 rfl x4 x5 (by omega) (by omega) (by omega) (by omega)
          have e2 : bits BinOp.or IntKind.u32 (x4 + x5 * 256) (x6 * 65536) = x4 + x5 * 256 + x6 * 65536 := or_k 16 65536 rfl (x4 + x5 * 256) x6 (by omega) (by omega) (by omega) (by omega)
          have e3 : bits BinOp.or IntKind.u32 (x4 + x5 * 256 + x6 * 65536) (x7 * 16777216) = x4 + x5 * 256 + x6 * 65536 + x7 * 16777216 := or_k 24 16777216 rfl (x4 + x5 * 256 + x6 * 65536) x7 (by omega) (by omega) (by omega) (by omega)
          rw [e1, e2, e3]
        go_wp2_with fail
        go_quiet (fail)
        try simp only [hor]
        obtain ⟨N, hN⟩ : ∃ N, x4 + x5 * 256 + x6 * 65536 + x7 * 16777216 = N := ⟨_, rfl⟩
        rw [show x4 + 256 * x5 + 65536 * x6 + 16777216 * x7 = N by omega] at HINS
        try simp only [hN]
        have hN0 : 0 ≤ N := by omega
        have hN1 : N < 4294967296 := by omega
        clear hor hN c4 c5 c6 c7
        go_wp2_with fail
        have hbw : bb < wr.heap.size := block_lt_of_cell c0
        have d0 : ∀ (m : Nat) (o : Obj), ((wr.drewN m).alloc o).cell? ⟨bb, off + 8 * k, none⟩ = some (.int .u8 x0) := fun m o => (World.cell?_alloc_lt _ _ _ hbw).trans c0
        have d1 : ∀ (m : Nat) (o : Obj), ((wr.drewN m).alloc o).cell? ⟨bb, off + 8 * k + 1, none⟩ = some (.int .u8 x1) := fun m o => (World.cell?_alloc_lt _ _ _ hbw).trans c1
        have d2 : ∀ (m : Nat) (o : Obj), ((wr.drewN m).alloc o).cell? ⟨bb, off + 8 * k + 2, none⟩ = some (.int .u8 x2) := fun m o => (World.cell?_alloc_lt _ _ _ hbw).trans c2
        have d3 : ∀ (m : Nat) (o : Obj), ((wr.drewN m).alloc o).cell? ⟨bb, off + 8 * k + 3, none⟩ = some (.int .u8 x3) := fun m o => (World.cell?_alloc_lt _ _ _ hbw).trans c3
        have z0 : ∀ (m : Nat), ((wr.drewN m).alloc (.cells #[.int .i64 0, .int .i64 0, .int .i64 0, .int .i64 0, .int .i64 0] 39)).cell? ⟨wr.heap.size, 0, none⟩ = some (.int .i64 0) := fun m => (cell_of_row _ _ _ _ _ _ (heap_alloc_new (wr.drewN m) _)).trans rfl
        have y0 : ∀ (m : Nat), ((wr.drewN m).alloc (.cells #[.int .i64 0, .int .i64 0, .int .i64 0, .int .i64 0, .int .i64 0] 39)).frozen? ⟨wr.heap.size, 0, none⟩ = false := fun m => frozen_of_row _ _ _ _ _ (heap_alloc_new (wr.drewN m) _)
        have z1 : ∀ (m : Nat), ((wr.drewN m).alloc (.cells #[.int .i64 0, .int .i64 0, .int .i64 0, .int .i64 0, .int .i64 0] 39)).cell? ⟨wr.heap.size, 1, none⟩ = some (.int .i64 0) := fun m => (cell_of_row _ _ _ _ _ _ (heap_alloc_new (wr.drewN m) _)).trans rfl
        have y1 : ∀ (m : Nat), ((wr.drewN m).alloc (.cells #[.int .i64 0, .int .i64 0, .int .i64 0, .int .i64 0, .int .i64 0] 39)).frozen? ⟨wr.heap.size, 1, none⟩ = false := fun m => frozen_of_row _ _ _ _ _ (heap_alloc_new (wr.drewN m) _)
        have z2 : ∀ (m : Nat), ((wr.drewN m).alloc (.cells #[.int .i64 0, .int .i64 0, .int .i64 0, .int .i64 0, .int .i64 0] 39)).cell? ⟨wr.heap.size, 2, none⟩ = some (.int .i64 0) := fun m => (cell_of_row _ _ _ _ _ _ (heap_alloc_new (wr.drewN m) _)).trans rfl
        have y2 : ∀ (m : Nat), ((wr.drewN m).alloc (.cells #[.int .i64 0, .int .i64 0, .int .i64 0, .int .i64 0, .int .i64 0] 39)).frozen? ⟨wr.heap.size, 2, none⟩ = false := fun m => frozen_of_row _ _ _ _ _ (heap_alloc_new (wr.drewN m) _)
        have z3 : ∀ (m : Nat), ((wr.drewN m).alloc (.cells #[.int .i64 0, .int .i64 0, .int .i64 0, .int .i64 0, .int .i64 0] 39)).cell? ⟨wr.heap.size, 3, none⟩ = some (.int .i64 0) := fun m => (cell_of_row _ _ _ _ _ _ (heap_alloc_new (wr.drewN m) _)).trans rfl
        have y3 : ∀ (m : Nat), ((wr.drewN m).alloc (.cells #[.int .i64 0, .int .i64 0, .int .i64 0, .int .i64 0, .int .i64 0] 39)).frozen? ⟨wr.heap.size, 3, none⟩ = false := fun m => frozen_of_row _ _ _ _ _ (heap_alloc_new (wr.drewN m) _)
        have z4 : ∀ (m : Nat), ((wr.drewN m).alloc (.cells #[.int .i64 0, .int .i64 0, .int .i64 0, .int .i64 0, .int .i64 0] 39)).cell? ⟨wr.heap.size, 4, none⟩ = some (.int .i64 0) := fun m => (cell_of_row _ _ _ _ _ _ (heap_alloc_new (wr.drewN m) _)).trans rfl
        have y4 : ∀ (m : Nat), ((wr.drewN m).alloc (.cells #[.int .i64 0, .int .i64 0, .int .i64 0, .int .i64 0, .int .i64 0] 39)).frozen? ⟨wr.heap.size, 4, none⟩ = false := fun m => frozen_of_row _ _ _ _ _ (heap_alloc_new (wr.drewN m) _)
        go_region
        clear z0 z1 z2 z3 z4 y0 y1 y2 y3 y4 d0 d1 d2 d3
        have hBl := ((((((Blk.new (wr.drewN (nq + 1)) 39 #[.int .i64 0, .int .i64 0, .int .i64 0, .int .i64 0, .int .i64 0]).set 0 (.int .i64 x0)).set 1 (.int .i64 x1)).set 2 (.int .i64 x2)).set 3 (.int .i64 x3)).set 4 (.int .i64 (wrap64 (wrap32 N))))
        have hBe : Below wr.heap.size wr (((((((wr.drewN (nq + 1)).alloc (.cells #[.int .i64 0, .int .i64 0, .int .i64 0, .int .i64 0, .int .i64 0] 39)).setCell ⟨wr.heap.size, 0, none⟩ (.int .i64 x0)).setCell ⟨wr.heap.size, 1, none⟩ (.int .i64 x1)).setCell ⟨wr.heap.size, 2, none⟩ (.int .i64 x2)).setCell ⟨wr.heap.size, 3, none⟩ (.int .i64 x3)).setCell ⟨wr.heap.size, 4, none⟩ (.int .i64 (wrap64 (wrap32 N)))) := (((((((below_drewN (Below.refl wr.heap.size wr) (nq + 1)).alloc (Nat.le_refl _) _).setCell (p := ⟨wr.heap.size, 0, none⟩) (Nat.le_refl _) _).setCell (p := ⟨wr.heap.size, 1, none⟩) (Nat.le_refl _) _).setCell (p := ⟨wr.heap.size, 2, none⟩) (Nat.le_refl _) _).setCell (p := ⟨wr.heap.size, 3, none⟩) (Nat.le_refl _) _).setCell (p := ⟨wr.heap.size, 4, none⟩) (Nat.le_refl _) _)
        have hsz : wr.heap.size < ((((((((wr.drewN (nq + 1)).alloc (.cells #[.int .i64 0, .int .i64 0, .int .i64 0, .int .i64 0, .int .i64 0] 39)).setCell ⟨wr.heap.size, 0, none⟩ (.int .i64 x0)).setCell ⟨wr.heap.size, 1, none⟩ (.int .i64 x1)).setCell ⟨wr.heap.size, 2, none⟩ (.int .i64 x2)).setCell ⟨wr.heap.size, 3, none⟩ (.int .i64 x3)).setCell ⟨wr.heap.size, 4, none⟩ (.int .i64 (wrap64 (wrap32 N))))).heap.size := by simp [World.setCell]
        obtain ⟨I, hI⟩ : ∃ I, wrap64 (wrap32 N) = I := ⟨_, rfl⟩
        have hIS : i32S N = I := by
          rw [← hI]; unfold i32S wrap64 wrap32; split <;> omega
        rw [hI] at hBl hBe hsz ⊢
        rw [hIS] at HINS
        obtain ⟨W, hW⟩ : ∃ W, (((((((wr.drewN (nq + 1)).alloc (.cells #[.int .i64 0, .int .i64 0, .int .i64 0, .int .i64 0, .int .i64 0] 39)).setCell ⟨wr.heap.size, 0, none⟩ (.int .i64 x0)).setCell ⟨wr.heap.size, 1, none⟩ (.int .i64 x1)).setCell ⟨wr.heap.size, 2, none⟩ (.int .i64 x2)).setCell ⟨wr.heap.size, 3, none⟩ (.int .i64 x3)).setCell ⟨wr.heap.size, 4, none⟩ (.int .i64 I)) = W := ⟨_, rfl⟩
        have hBl' : Blk W wr.heap.size 39 #[.int .i64 x0, .int .i64 x1, .int .i64 x2, .int .i64 x3, .int .i64 I] := by rw [← hW]; exact hBl
        rw [hW] at hBe hsz ⊢
        clear hW hBl hI hIS
        have HOW : Hid (W.ownsRow w.heap.size 39 5 u4 k (insRow b k)) := Lib.hid (owns_block hown.out (fun g hg => hBe.block g (hown.out.lt g hg).2))
        have HBW : Hid (Below w.heap.size w W) := Lib.hid (hbel.out.trans (hBe.mono hbel.out.size))
        have HQN : Hid (∀ gg, u4.ownBlock = some gg → gg ≠ wr.heap.size) := Lib.hid (fun gg hgg => by have := (hown.out.lt gg hgg).2; omega)
        generalize wr.heap.size = q at hBl' hsz HQN ⊢
        have HQB := Lib.hid hBl'
        clear hBe hBl' hown hbel c0 c1 c2 c3
        have e0 : W.cell? ⟨q, 0, none⟩ = some (.int .i64 x0) := by rw [HQB.out.cell]; rfl
        have e1 : W.cell? ⟨q, 1, none⟩ = some (.int .i64 x1) := by rw [HQB.out.cell]; rfl
        have e2 : W.cell? ⟨q, 2, none⟩ = some (.int .i64 x2) := by rw [HQB.out.cell]; rfl
        have e3 : W.cell? ⟨q, 3, none⟩ = some (.int .i64 x3) := by rw [HQB.out.cell]; rfl
        have e4 : W.cell? ⟨q, 4, none⟩ = some (.int .i64 I) := by rw [HQB.out.cell]; rfl
        have C1 := Lib.hid (HC.out ⟨x0, x1, x2, x3, I⟩ W)
        go_wp2_with fail
        refine (C1.out).mono ?_
        rintro e w5 ⟨rfl, hb5⟩
        by_cases hm : mayS ⟨x0, x1, x2, x3, I⟩ = true
        · rw [if_pos hm]
          have HO5 : Hid (w5.ownsRow w.heap.size 39 5 u4 k (insRow b k)) := Lib.hid (owns_block HOW.out (fun g hg => hb5.block g (HOW.out.lt g hg).2))
          have HB5 : Hid (Below w.heap.size w w5) := Lib.hid (HBW.out.trans (hb5.mono HBW.out.size))
          have HQ5 : Hid (Blk w5 q 39 #[.int .i64 x0, .int .i64 x1, .int .i64 x2, .int .i64 x3, .int .i64 I]) := Lib.hid (HQB.out.keep hb5)
          have HK : Hid (∀ t, t < k + 1 → mayS (insK b t) = true) := Lib.hid (fun t ht => by
            rcases Nat.lt_or_ge t k with h | h
            · exact hok.out t h
            · obtain rfl : t = k := by omega
              rw [HINS.out]; exact hm)
          have HRW : Hid (insRow b (k + 1) = insRow b k ++ [.int .i64 x0, .int .i64 x1, .int .i64 x2, .int .i64 x3, .int .i64 I]) := Lib.hid (by
            unfold insRow
            rw [List.range_succ, List.flatMap_append]
            simp only [List.flatMap_cons, List.flatMap_nil, List.append_nil]
            rw [HINS.out]
            rfl)
          clear hm hb5 e0 e1 e2 e3 e4 C1 HOW HBW
          have e0 : w5.cell? ⟨q, 0, none⟩ = some (.int .i64 x0) := by rw [HQ5.out.cell]; rfl
          have e1 : w5.cell? ⟨q, 1, none⟩ = some (.int .i64 x1) := by rw [HQ5.out.cell]; rfl
          have e2 : w5.cell? ⟨q, 2, none⟩ = some (.int .i64 x2) := by rw [HQ5.out.cell]; rfl
          have e3 : w5.cell? ⟨q, 3, none⟩ = some (.int .i64 x3) := by rw [HQ5.out.cell]; rfl
          have e4 : w5.cell? ⟨q, 4, none⟩ = some (.int .i64 I) := by rw [HQ5.out.cell]; rfl
          go_wp2_with fail
          have KA : Hid (∀ o : Obj, (w5.drew.alloc o).cell? ⟨q, 0, none⟩ = some (.int .i64 x0) ∧ (w5.drew.alloc o).cell? ⟨q, 1, none⟩ = some (.int .i64 x1) ∧ (w5.drew.alloc o).cell? ⟨q, 2, none⟩ = some (.int .i64 x2) ∧ (w5.drew.alloc o).cell? ⟨q, 3, none⟩ = some (.int .i64 x3) ∧ (w5.drew.alloc o).cell? ⟨q, 4, none⟩ = some (.int .i64 I)) := Lib.hid (fun o => ⟨Lib.cell?_alloc_some _ e0, Lib.cell?_alloc_some _ e1, Lib.cell?_alloc_some _ e2, Lib.cell?_alloc_some _ e3, Lib.cell?_alloc_some _ e4⟩)
          have KG : Hid (∀ (o : Obj) (w4 : World), (w5.drew.alloc o).grownBy w4 u4.ownBlock → w4.cell? ⟨q, 0, none⟩ = some (.int .i64 x0) ∧ w4.cell? ⟨q, 1, none⟩ = some (.int .i64 x1) ∧ w4.cell? ⟨q, 2, none⟩ = some (.int .i64 x2) ∧ w4.cell? ⟨q, 3, none⟩ = some (.int .i64 x3) ∧ w4.cell? ⟨q, 4, none⟩ = some (.int .i64 I)) := Lib.hid (fun o w4 hg => by
            obtain ⟨k0, k1, k2, k3, k4⟩ := KA.out o
            have hb := hg.block q (by have := HQ5.out.lt; simp; omega) (fun e => HQN.out q e.symm rfl)
            exact ⟨(World.cell?_of_block (a := ⟨q, 0, none⟩) hb).trans k0, (World.cell?_of_block (a := ⟨q, 1, none⟩) hb).trans k1, (World.cell?_of_block (a := ⟨q, 2, none⟩) hb).trans k2, (World.cell?_of_block (a := ⟨q, 3, none⟩) hb).trans k3, (World.cell?_of_block (a := ⟨q, 4, none⟩) hb).trans k4⟩)
          go_region_held3 (fun w' => w'.cell? ⟨q, 0, none⟩ = some (.int .i64 x0) ∧ w'.cell? ⟨q, 1, none⟩ = some (.int .i64 x1) ∧ w'.cell? ⟨q, 2, none⟩ = some (.int .i64 x2) ∧ w'.cell? ⟨q, 3, none⟩ = some (.int .i64 x3) ∧ w'.cell? ⟨q, 4, none⟩ = some (.int .i64 I))
            (first | exact ⟨e0, e1, e2, e3, e4⟩ | exact KA.out _ | exact KG.out _ _ hgrow)
            (first | (refine step_append_lies _ (by rfl) _ _ 23 (by rfl) w.heap.size 39 i0 (.agg #[.int .i64 0, .int .i64 0, .int .i64 0, .int .i64 0, .int .i64 0]) 5 40 Tryd.underlying23 HI.out.1 HI.out.2.1 HI.out.2.2.1 HI.out.2.2.2 rfl (by decide) u4 k (insRow b k) (by simp [Act.eval, Act.put]) (HO5.out.alloc _) ⟨w5.heap.size, 0, none⟩ 1 1 [.int .i64 x0, .int .i64 x1, .int .i64 x2, .int .i64 x3, .int .i64 I] (by simp [Act.eval, Act.put]) rfl (World.news_of_block (heap_alloc_new _ _)) (by intro u hu; simp at hu; rcases hu with rfl | rfl | rfl | rfl | rfl <;> rfl) (by decide) (by unfold maxLen; omega) (by omega) (by have := HB5.out.size; simp; omega) (w5.heap.size + 1) (by simp) ?_; intro g4 c4 w4 hown4 hgrow hat4 hlt4))
          all_goals
            have H4 : Hid (w4.ownsRow w.heap.size 39 5 (.slice (some ⟨g4, 0, none⟩) (k + 1) c4) (k + 1) (insRow b (k + 1))) := Lib.hid (by rw [HRW.out]; exact hown4)
            have hlt1 := HO5.out.lt
            have B4 : Hid (Below w.heap.size w w4) := Lib.hid (by
              first
              | exact (HB5.out.alloc HB5.out.size _).grown hgrow (by have := HB5.out.size; simp; omega) (fun j hj => (hlt1 j hj).1)
              | exact (HB5.out.alloc HB5.out.size _).drew.grown hgrow (by have := HB5.out.size; simp; omega) (fun j hj => (hlt1 j hj).1))
            have HA1 : Hid (∀ bb' off' : Nat, (some ⟨bb, off, none⟩ : Option Addr) = some ⟨bb', off', none⟩ → (some ⟨bb, off + 8 * k + 8, none⟩ : Option Addr) = some ⟨bb', off' + 8 * (k + 1), none⟩) := Lib.hid (fun bb' off' h => by
              simp only [Option.some.injEq, Addr.mk.injEq, and_true] at h ⊢
              omega)
            have e8 : n - 8 * (k + 1) = n - 8 * k - 8 := by omega
            have e9 : c - 8 * (k + 1) = c - 8 * k - 8 := by omega
            have HD : Hid (DInv (some ⟨bb, off, none⟩) b n c w (.slice (if c - 8 * k = 8 then some ⟨bb, off + 8 * k, none⟩ else some ⟨bb, off + 8 * k + 8, none⟩) (n - 8 * k - 8) (c - 8 * k - 8)) (.slice (some ⟨g4, 0, none⟩) (k + 1) c4) w4) := Lib.hid ⟨⟨k + 1, _, by omega, by rw [e8, e9], fun h => by rw [if_neg (by omega)]; exact HA1.out, H4.out, HK.out, B4.out⟩⟩
            clear hown4 hgrow hat4 hlt4 hlt1
            go_roundw
            case rel => first | exact HD | ((repeat apply Exists.intro); exact ⟨HD, rfl⟩) | ((repeat apply Exists.intro); exact ⟨HD, by simp⟩)
            case measure => simp [lenV]; omega
        · rw [if_neg hm]
          have HF : Hid (DecE b w (.returned (.tuple #[.slice none 0 0, .int .i64 40])) w5) := Lib.hid ⟨.inr ⟨fun h => hm (by have := h.2 k (by rw [HN.out]; omega); rwa [HINS.out] at this), rfl⟩, HBW.out.trans (hb5.mono HBW.out.size)⟩
          clear hm hb5 C1
          go_wp2
          go_ret2
          exact HF.out
end Go.Proofs.YtmbacegbcccdjaaDoor
