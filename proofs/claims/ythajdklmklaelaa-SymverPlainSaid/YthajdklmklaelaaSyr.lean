/-
  Layer 7: SymverPlain's walk; clevisref07.Parse.
  Conditions: none. (My own text.)
-/
import Derived.Test.YthajdklmklaelaaSyh
namespace Go.Proofs.Ythajdklmklaelaa
open Go.RowKit
set_option linter.unusedVariables false
set_option linter.unusedSimpArgs false

set_option maxHeartbeats 2000000 in
theorem plain_walk (dn dv : ByteArray) (do_ dw dd : Bool) (dk di da ds : Int) (v : ByteArray) (w : World) :
    Calls Try.prog 6 #[.agg #[.string dn, .string dv, .bool do_, .int .i64 dk, .bool dw, .int .i64 di, .bool dd, .int .i64 da, .int .i64 ds], .string v] w fun e w' => e = .returned (.bool true) ∧ Below w.heap.size w w' := by
  have A1 := Lib.hid awake_any
  have e1 : matchS dn ⟨#[]⟩ dn dv do_ (seenS true 1) true = !do_ := by simp [matchS, seenS]
  have e2 : matchS dn v dn dv do_ (seenS true 1) false = if v.toList.isEmpty = true then !do_ else true := by simp [matchS, seenS]
  have c1 : ∀ w, _ := fun w => match_any dn ⟨#[]⟩ false false false 0 0 0 0 dn dv do_ dw true dk 1 da ds true w
  have c2 : ∀ w, _ := fun w => match_any dn v false false false 0 0 0 0 dn dv do_ dw true dk 1 da ds false w
  have c3 : ∀ w, _ := fun w => seen_any dn dv do_ dw true dk 1 da ds w
  rw [e1] at c1
  rw [e2] at c2
  rw [show seenS true 1 = true from rfl] at c3
  clear e1 e2
  cases do_ <;> cases hE : v.toList.isEmpty <;> rw [hE] at c2
  all_goals
    simp only [Bool.not_false, Bool.not_true, Bool.false_eq_true, if_true, if_false] at c1 c2
    have C1 := Lib.hid c1; clear c1
    have C2 := Lib.hid c2; clear c2
    have C3 := Lib.hid c3; clear c3
    go_enter Try.func6, Try.ntmps6
    go_wp2_with fail
    refine (A1.out _).mono ?_
    rintro e w1 ⟨rfl, hb1⟩
    have r1 := row_new hb1
    have hfz : ∀ k, w1.frozen? ⟨w.heap.size, k, none⟩ = false := fun k => (hb1.frozen (p := ⟨w.heap.size, k, none⟩) (by simp)).trans (World.frozen?_alloc_at _ _ _ _ rfl)
    have l1 : w.heap.size < w1.heap.size := by have := hb1.size; simp at this; omega
    have hh1 : w1.heap[w.heap.size]? = _ := (hb1.block w.heap.size (by simp)).trans (heap_alloc_new w _)
    have HH := Lib.hid hh1
    have g1 := below_box hb1
    clear hb1 hh1
    go_wp2_with fail
    refine (C1.out _).mono ?_
    rintro e w2 ⟨rfl, hb2⟩
    have hh2 : w2.heap[w.heap.size]? = some (.cells #[.string dn, .string dv, _, .int .i64 dk, .bool dw, .int .i64 1, .bool true, .int .i64 da, .int .i64 ds] 26 (0, 0)) :=
      (hb2.block w.heap.size (by simp [World.setCell]; omega)).trans (heap_setCell_same _ _ 5 _ _ _ (heap_setCell_same _ _ 6 _ _ _ HH.out))
    have r2 := fun k => cell_of_row w2 w.heap.size k _ _ _ hh2
    have g2 : Below w.heap.size w w2 := ((g1.setCell (p := ⟨w.heap.size, 6, none⟩) (Nat.le_refl _) _).setCell (p := ⟨w.heap.size, 5, none⟩) (Nat.le_refl _) _).trans (hb2.mono (by simp [World.setCell]; omega))
    have l2 : w.heap.size < w2.heap.size := by have := hb2.size; simp [World.setCell] at this; omega
    clear r1 hfz hh2 HH hb2
    go_wp2_with fail
    refine (C2.out _).mono ?_
    rintro e w3 ⟨rfl, hb3⟩
    have r3 := row_stay hb3 r2 l2
    have g3 := g2.trans (hb3.mono g2.size)
    have l3 : w.heap.size < w3.heap.size := Nat.lt_of_lt_of_le l2 hb3.size
    clear r2 hb3
    go_wp2_with fail
    refine (C3.out _).mono ?_
    rintro e w4 ⟨rfl, hb4⟩
    go_wp2
    go_ret
    exact ⟨rfl, g3.trans (hb4.mono g3.size)⟩
end Go.Proofs.Ythajdklmklaelaa
