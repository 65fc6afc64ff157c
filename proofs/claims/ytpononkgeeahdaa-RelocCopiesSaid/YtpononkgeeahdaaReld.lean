/-
  RelocCopies: the walk.
  Conditions: none. (My own text.)
-/
import Derived.Test.YtpononkgeeahdaaRelb
import Derived.Test.YtpononkgeeahdaaRel3
namespace Go.Proofs.Ytpononkgeeahdaa
open Go.RowKit Spm
set_option linter.unusedVariables false
set_option linter.unusedSimpArgs false

set_option maxRecDepth 100000 in
set_option maxHeartbeats 4000000 in
theorem copies_walk (v : Value) (l : List ActM) (x y : Int) (hx : I64 x) (hy : I64 y) (n : Nat) (hn : n ≤ 255) (w : World) (hv : ActsV w w.heap.size v l) :
    Calls Try.prog 7 #[v, .int .i64 x, .int .i64 y, .int .u8 n] w fun e w' => e = .returned (.bool true) ∧ Below w.heap.size w w' := by
  have A1 := Lib.hid awake_any
  have C1 : Hid (∀ {w1 : World}, Below w.heap.size w w1 → Calls Try.prog 18 #[v] w1 fun e w' => ∃ a, e = .returned (.pointer (some ⟨a, 0, none⟩)) ∧ Mine w.heap.size w w' a (playS [] (l.map (·.x)))) := Lib.hid (fun h => played_any h h.size v l hv)
  generalize playS [] (l.map (·.x)) = L at C1
  clear hv
  obtain ⟨hx0, hx1⟩ := hx
  obtain ⟨hy0, hy1⟩ := hy
  have hkk : ((1 + n : Nat) : Int) = 1 + (n : Int) := by omega
  have HKK := Lib.hid hkk; clear hkk
  go_enter Try.func7, Try.ntmps7
  go_wp2_with fail
  refine (A1.out _).mono ?_
  rintro e w1 ⟨rfl, h1⟩
  have H1 := Lib.hid h1; clear h1
  go_wp2_with fail
  refine (C1.out H1.out).mono ?_
  rintro e w2 ⟨a, rfl, m2⟩
  have M2 := Lib.hid (Has.of_mine m2); clear m2
  have HOK := Lib.hid M2.out.ok
  go_wp2_with fail
  have C3 := Lib.hid (own_peek M2.out y hy1 ((1 + n : Nat) : Int))
  have PL := Lib.hid (copies_law HOK.out (x := x) (y := y) (n := 1 + n) (by omega) (by omega) ⟨hx0, hx1⟩)
  rw [HKK.out] at C3 PL
  refine (C3.out).mono ?_
  rintro e w3 ⟨v3, rfl, m3⟩
  have M3 := Lib.hid m3.swap; clear m3 M2 C3
  go_wp2_with fail
  have m4 := (M3.out.row 4 relC (fun _ => rfl) [⟨0, 2, 0, 0⟩] (by decide) #[.int .i64 0, .int .i64 2, .int .i64 0, .int .i64 0] 24 rfl).row 8 fctC (fun _ => rfl) [⟨0, y, 1 + (n : Int), 0, 0, 0, false, false⟩] (by show 1 ≤ maxLen; decide) #[.int .i64 0, .int .i64 y, .int .i64 (1 + (n : Int)), .int .i64 0, .int .i64 0, .int .i64 0, .bool false, .bool false] 26 rfl
  simp only [World.size_alloc] at m4
  have M4 := Lib.hid m4.r3; clear m4 M3
  have C5 := Lib.hid (own_apply M4.out x _ _ [⟨0, 2, 0, 0⟩] [⟨0, y, 1 + (n : Int), 0, 0, 0, false, false⟩] (by intro f hf; simp only [List.mem_cons, List.not_mem_nil, or_false] at hf; rcases hf with rfl; exact hy1) (Away.right Away.own) Away.own)
  by_cases hE : (getS L y (1 + (n : Int)) 0).2 = 0
  · have P := PL.out.2 hE
    rw [P.1] at C5
    have P2 := Lib.hid P.2; clear P PL
    rw [hE]
    generalize (getS L y (1 + (n : Int)) 0).1 = b at *
    clear hE
    refine (C5.out).mono ?_
    rintro e w5 ⟨rfl, m5⟩
    have M5 := Lib.hid m5; clear m5 M4 C5
    generalize setS L x b 0 = r at *
    obtain ⟨L2, er⟩ := r
    simp only at M5 P2 ⊢
    go_wp2_with fail
    refine (own_peek M5.out x hx1 (1 + (n : Int))).mono ?_
    rintro e w6 ⟨v6, rfl, m6⟩
    have k6 := m6.bt.conv
    have k3 := m6.right.right.right.right.bt.conv
    have HB6 := Lib.hid m6.bel
    clear m6 M5
    by_cases hE2 : (getS L2 x (1 + (n : Int)) 0).2 = 0
    · obtain ⟨p1, p2⟩ := P2.out.2 hE2
      rw [p2] at k6
      rw [hE2]
      subst p1
      clear P2 hE2 p2
      go_wp2
      go_ret
      exact ⟨by simp, HB6.out⟩
    · have p1 := P2.out.1 hE2
      subst p1
      have ee : ((getS L2 x (1 + (n : Int)) 0).2 == 0) = false := beq_eq_false_iff_ne.2 hE2
      generalize (getS L2 x (1 + (n : Int)) 0).2 = E at *
      clear P2 hE2 k6 k3
      go_wp2
      go_ret
      exact ⟨by simp, HB6.out⟩
  · have P := PL.out.1 hE
    rw [P] at C5
    have ee : ((getS L y (1 + (n : Int)) 0).2 == 0) = false := beq_eq_false_iff_ne.2 hE
    generalize (getS L y (1 + (n : Int)) 0).2 = E at *
    clear P PL hE
    refine (C5.out).mono ?_
    rintro e w5 ⟨rfl, m5⟩
    have HB5 := Lib.hid m5.bel; clear m5 M4 C5
    go_wp2
    go_ret
    exact ⟨by simp, HB5.out⟩
end Go.Proofs.Ytpononkgeeahdaa
