/-
  Layer 4: the document's Same, at equal lists.
  Conditions: none. (My own text.)
-/
import Derived.Test.YtmbacegbcccdjaaDoorKpa
import Derived.Test.YtmbacegbcccdjaaDoorKfr
namespace Go.Proofs.YtmbacegbcccdjaaDoor
open Go.RowKit Spm
set_option linter.unusedVariables false
set_option linter.unusedSimpArgs false

open Go.Lib hiding intOf
attribute [local irreducible] wpList
set_option maxRecDepth 100000 in
set_option maxHeartbeats 4000000 in
theorem same04 (va vb : Value) (l : List Ins) (P Q : Nat → Prop) (w : World) (hra : RowsAt 5 Ins.cells w P va l) (hrb : RowsAt 5 Ins.cells w Q vb l) :
    Calls Tryd.prog 14 #[va, vb] w fun e w' => e = .returned (.bool true) ∧ Below w.heap.size w w' := by
  obtain ⟨A, c, rfl, hlc, hcm, hrow⟩ := hra
  obtain ⟨A2, c2, rfl, -, -, hrow2⟩ := hrb
  have HR := Lib.hid hrow
  have HR2 := Lib.hid hrow2
  have hlm : l.length ≤ 9223372036854775807 := by unfold maxLen at hcm; omega
  clear hrow hrow2 hlc hcm
  go_enter Tryd.func14, Tryd.ntmps14
  go_wp2_with fail
  go_loopw [5] (fun t wr => ∃ k : Nat, k ≤ l.length ∧ t = .int .i64 k ∧ Hid (Below w.heap.size w wr)) (fun t _ => l.length - (RowKit.intOf t).toNat)
  case atStart => exact ⟨0, Nat.zero_le _, rfl, Lib.hid (Below.refl _ _)⟩
  case round =>
    obtain ⟨k, hk, rfl, B3⟩ := hrel
    obtain ⟨w3, hw3⟩ : ∃ w3, w3 = wr := ⟨_, rfl⟩
    rw [← hw3] at B3 ⊢
    clear hw3
    by_cases hkn : k < l.length
    · obtain ⟨i, hi⟩ : ∃ i, l[k]? = some i := ⟨_, List.getElem?_eq_getElem hkn⟩
      obtain ⟨bb, off, rfl, -, hbl, hcell⟩ := HR.out k i hi
      obtain ⟨bb2, off2, rfl, -, hbl2, hcell2⟩ := HR2.out k i hi
      have x0 : w3.cell? ⟨bb, off + k * 5, none⟩ = some (.int .i64 i.op) := (B3.out.cell (p := ⟨bb, off + k * 5 + 0, none⟩) hbl).trans (hcell 0 _ rfl)
      have y0 : w3.cell? ⟨bb2, off2 + k * 5, none⟩ = some (.int .i64 i.op) := (B3.out.cell (p := ⟨bb2, off2 + k * 5 + 0, none⟩) hbl2).trans (hcell2 0 _ rfl)
      have x1 : w3.cell? ⟨bb, off + k * 5 + 1, none⟩ = some (.int .i64 i.a) := (B3.out.cell (p := ⟨bb, off + k * 5 + 1, none⟩) hbl).trans (hcell 1 _ rfl)
      have y1 : w3.cell? ⟨bb2, off2 + k * 5 + 1, none⟩ = some (.int .i64 i.a) := (B3.out.cell (p := ⟨bb2, off2 + k * 5 + 1, none⟩) hbl2).trans (hcell2 1 _ rfl)
      have x2 : w3.cell? ⟨bb, off + k * 5 + 2, none⟩ = some (.int .i64 i.b) := (B3.out.cell (p := ⟨bb, off + k * 5 + 2, none⟩) hbl).trans (hcell 2 _ rfl)
      have y2 : w3.cell? ⟨bb2, off2 + k * 5 + 2, none⟩ = some (.int .i64 i.b) := (B3.out.cell (p := ⟨bb2, off2 + k * 5 + 2, none⟩) hbl2).trans (hcell2 2 _ rfl)
      have x3 : w3.cell? ⟨bb, off + k * 5 + 3, none⟩ = some (.int .i64 i.c) := (B3.out.cell (p := ⟨bb, off + k * 5 + 3, none⟩) hbl).trans (hcell 3 _ rfl)
      have y3 : w3.cell? ⟨bb2, off2 + k * 5 + 3, none⟩ = some (.int .i64 i.c) := (B3.out.cell (p := ⟨bb2, off2 + k * 5 + 3, none⟩) hbl2).trans (hcell2 3 _ rfl)
      have x4 : w3.cell? ⟨bb, off + k * 5 + 4, none⟩ = some (.int .i64 i.n) := (B3.out.cell (p := ⟨bb, off + k * 5 + 4, none⟩) hbl).trans (hcell 4 _ rfl)
      have y4 : w3.cell? ⟨bb2, off2 + k * 5 + 4, none⟩ = some (.int .i64 i.n) := (B3.out.cell (p := ⟨bb2, off2 + k * 5 + 4, none⟩) hbl2).trans (hcell2 4 _ rfl)
      have hkI : (k : Int) < (l.length : Int) := by omega
      clear hi hbl hbl2 hcell hcell2
      go_upto_region 6 with fail
      go_quiet (fail)
      have B4 : Hid (Below w.heap.size w _) := Lib.hid (below_drewN B3.out nq)
      go_wp2_with fail
      first
        | (go_roundw
           case rel => exact ⟨k + 1, by omega, by go_num, B4⟩
           case measure => simp [intOf]; omega)
        | (refine ⟨?_, ?_⟩
           · (repeat apply Exists.intro)
             refine ⟨?_, rfl⟩
             exact ⟨k + 1, by omega, by go_num, B4⟩
           · simp [intOf]; omega)
    · go_wp2_with fail
      go_ret
      exact ⟨rfl, B3.out⟩
end Go.Proofs.YtmbacegbcccdjaaDoor
