/-
  SpaceGaps: the walk.
  Conditions: none. (My own text.)
-/
import Derived.Test.YtblmppdfdihogaaSqd
import Derived.Test.YtblmppdfdihogaaSqh
namespace Go.Proofs.Ytblmppdfdihogaa
open Go.RowKit Spm
set_option linter.unusedVariables false
set_option linter.unusedSimpArgs false

set_option maxHeartbeats 2000000 in
theorem gaps_walk (v : Value) (l : List ActM) (size : Int) (u : Int) (hu0 : 0 ≤ u) (hu1 : u ≤ 65535) (w : World) (hv : ActsV w w.heap.size v l) :
    Calls Try.prog 6 #[v, .int .i64 size, .int .u16 u] w fun e w' => e = .returned (.bool true) ∧ Below w.heap.size w w' := by
  have A1 := Lib.hid awake_any
  have C1 : Hid (∀ {w1 : World}, Below w.heap.size w w1 → Calls Try.prog 11 #[v] w1 fun e w' => ∃ a, e = .returned (.pointer (some ⟨a, 0, none⟩)) ∧ Mine w.heap.size w w' a (playS [] (l.map (·.x)))) := Lib.hid (fun h => played_any h h.size v l hv)
  generalize playS [] (l.map (·.x)) = L at C1
  clear hv
  go_enter Try.func6, Try.ntmps6
  go_wp2_with fail
  refine (A1.out _).mono ?_
  rintro e w1 ⟨rfl, h1⟩
  have H1 := Lib.hid h1; clear h1
  go_wp2_with fail
  refine (C1.out H1.out).mono ?_
  rintro e w2 ⟨a, rfl, m2⟩
  have M2 := Lib.hid (Has.of_mine m2); clear m2
  have HOK := Lib.hid M2.out.ok
  go_wp2_with fail
  refine (own_gap M2.out size).mono ?_
  rintro e w3 ⟨rfl, m3⟩
  have M3 := Lib.hid m3; clear m3 M2
  by_cases hE : (gapS L size).2 = 0
  · obtain ⟨g1, g2, g3, g4, g5, _⟩ := gap_ok HOK.out hE
    have P1 := Lib.hid (map_gap HOK.out (p := 3) hE (by omega))
    have P2 := Lib.hid (mapAt_gap HOK.out (p := 3) hE (by omega))
    have P3 : Hid (∀ x, x < (gapS L size).1 → (mapAtS L x size 3).2 ≠ 0 ∧ (mapAtS L x size 3).1 = L) := Lib.hid (fun x hx => ⟨mapAt_less HOK.out hE hx, mapAt_refused (mapAt_less HOK.out hE hx)⟩)
    have hup := up_ge size g1
    have g6 : (gapS L size).1 ≤ 4294967296 := by omega
    generalize (gapS L size).1 = g at *
    rw [hE]
    generalize List.take (insP g L) L ++ ⟨g, up size, 3, zeros (up size)⟩ :: List.drop (insP g L) L = L2 at P1 P2
    have CL : Hid (∀ (w1 : World) (Y : Res) (hY : Fr Y) (x : Int), x < g → Has w.heap.size w w1 (Star (Sp a L) Y) → Calls Try.prog 16 #[.pointer (some ⟨a, 0, none⟩), .int .i64 x, .int .i64 size, .int .i64 3] w1 fun e w' => (∃ n : Int, e = .returned (.int .i64 n) ∧ (n == 0) = false) ∧ Has w.heap.size w w' (Star (Sp a L) Y)) := Lib.hid (fun w1 Y hY x hx h => (own_mapAt h x size 3).mono fun e w' h' => ⟨⟨_, h'.1, beq_eq_false_iff_ne.2 (P3.out x hx).1⟩, by have := h'.2; rwa [(P3.out x hx).2] at this⟩)
    clear g1 g2 g4 g5 hup hE P3
    go_wp2_with fail
    refine (own_copy M3.out).mono ?_
    rintro e w4 ⟨c, rfl, m4⟩
    have M4 := Lib.hid m4.swap; clear m4 M3
    go_wp2_with fail
    refine (CL.out _ _ inferInstance _ ?_ M4.out).mono ?_
    · first | omega | (simp; omega)
    rintro e w5 ⟨⟨n5, rfl, ne5⟩, m5⟩
    have M5 := Lib.hid m5.swap; clear m5 M4
    go_wp2_with fail
    have C6 := Lib.hid (own_map M5.out size 3)
    rw [P1.out] at C6
    refine (C6.out).mono ?_
    rintro e w6 ⟨rfl, m6⟩
    have M6 := Lib.hid m6.swap; clear m6 M5 C6
    have C7 := Lib.hid (own_mapAt M6.out g size 3)
    rw [P2.out] at C7
    go_wp2_with fail
    refine (C7.out).mono ?_
    rintro e w7 ⟨rfl, m7⟩
    have M7 := Lib.hid m7; clear m7 M6 C7
    go_wp2_with fail
    refine (own_regions M7.out).mono ?_
    rintro e w8 ⟨v8, rfl, m8⟩
    have M8 := Lib.hid m8.r3; clear m8 M7
    go_wp2_with fail
    refine (own_regions M8.out).mono ?_
    rintro e w9 ⟨v9, rfl, m9⟩
    have M9 := Lib.hid m9; clear m9 M8
    go_wp2_with fail
    refine (same_any M9.out.r3.rs M9.out.rs rfl).mono ?_
    rintro e w10 ⟨rfl, h10⟩
    have HB := Lib.hid (M9.out.stay h10).bel
    clear M9 h10
    go_wp2
    go_ret
    exact ⟨by simp, HB.out⟩
  · obtain ⟨e1, e2⟩ := gap_err hE
    have P1 := Lib.hid (map_full (L := L) (n := size) (p := 3) (by omega) hE)
    have ee : ((gapS L size).2 == 0) = false := beq_eq_false_iff_ne.2 hE
    have C4 := Lib.hid (own_map M3.out size 3)
    rw [P1.out] at C4
    rw [e1]
    generalize (gapS L size).2 = E at *
    clear P1 M3 hE e1
    rcases e2 with rfl | rfl
    all_goals
      clear ee
      go_wp2_with fail
      refine (C4.out).mono ?_
      rintro e w4 ⟨rfl, m4⟩
      have HB := Lib.hid m4.bel
      clear m4
      go_wp2
      go_ret
      exact ⟨by simp, HB.out⟩
end Go.Proofs.Ytblmppdfdihogaa
