/-
  SpaceKeeps: the walk.
  Conditions: none. (My own text.)
-/
import Derived.Test.YtblmppdfdihogaaSqd
import Derived.Test.YtblmppdfdihogaaSqp
namespace Go.Proofs.Ytblmppdfdihogaa
open Go.RowKit Spm
set_option linter.unusedVariables false
set_option linter.unusedSimpArgs false

theorem set_bounds {L : List Rg} (h : Ok L) {x : Int} {b : List UInt8} {p : Int} (hs : (setS L x b p).2 = 0) : 4096 ≤ x ∧ x + b.length ≤ 4294967296 := by
  unfold setS at hs
  split at hs
  · simp at hs
  · split at hs
    · rename_i hp; simp only at hs; omega
    · rename_i hp
      have hp' : partS L x b.length p = 0 := by simpa using hp
      obtain ⟨r, hr, hrn, _, hin⟩ := partS_ok hp'
      obtain ⟨i1, i2⟩ := inside_iff hin
      have hr' := h.each r (List.mem_of_getElem? hr)
      have h1 := hr'.lo; have h2 := hr'.hi
      omega

set_option maxHeartbeats 2000000 in
theorem keeps_walk (v : Value) (l : List ActM) (at_ : Int) (hat : at_ ≤ 9223372036854775807) (hat0 : -9223372036854775808 ≤ at_) (A : Option Addr) (c : Nat) (b : List UInt8) (hbl : b.length ≤ maxLen) (other : Int) (hot : other ≤ 9223372036854775807) (hot0 : -9223372036854775808 ≤ other) (w : World) (hv : ActsV w w.heap.size v l) (hb : BytesAt w w.heap.size A b) :
    Calls Try.prog 4 #[v, .int .i64 at_, .slice A b.length c, .int .i64 other] w fun e w' => e = .returned (.bool true) ∧ Below w.heap.size w w' := by
  have A1 := Lib.hid awake_any
  have C1 : Hid (∀ {w1 : World}, Below w.heap.size w w1 → Calls Try.prog 11 #[v] w1 fun e w' => ∃ a, e = .returned (.pointer (some ⟨a, 0, none⟩)) ∧ Mine w.heap.size w w' a (playS [] (l.map (·.x)))) := Lib.hid (fun h => played_any h h.size v l hv)
  generalize playS [] (l.map (·.x)) = L at C1
  clear hv
  have HBS := Lib.hid hb; clear hb
  have hbl' : b.length ≤ 9223372036854775807 := by unfold maxLen at hbl; omega
  clear hbl
  go_enter Try.func4, Try.ntmps4
  go_wp2_with fail
  refine (A1.out _).mono ?_
  rintro e w1 ⟨rfl, h1⟩
  have H1 := Lib.hid h1; clear h1
  go_wp2_with fail
  refine (C1.out H1.out).mono ?_
  rintro e w2 ⟨a, rfl, m2⟩
  have M2 := Lib.hid (Has.of_mine m2); clear m2
  have HOK := Lib.hid M2.out.ok
  go_wp2_with fail
  refine (own_peek M2.out other hot 1).mono ?_
  rintro e w3 ⟨v3, rfl, m3⟩
  have M3 := Lib.hid m3.swap; clear m3 M2
  have K3 := Lib.hid (HBS.out.src M3.out.bel)
  go_wp2_with fail
  refine (own_poke M3.out at_ hat A c b hbl' K3.out).mono ?_
  rintro e w4 ⟨rfl, m4⟩
  have M4 := Lib.hid m4; clear m4 M3 K3
  by_cases hE : (setS L at_ b 0).2 = 0
  · have P1 := Lib.hid (set_get HOK.out hE)
    have P2 := Lib.hid (get_err_set L at_ other 1 0 0 b)
    have P3 := Lib.hid (set_other HOK.out (x := at_) (y := other) hE)
    have hx1 : 4096 ≤ at_ ∧ at_ + b.length ≤ 4294967296 := by
      have h1 := set_bounds HOK.out hE
      exact h1
    obtain ⟨hx1, hx2⟩ := hx1
    rw [hE]
    generalize (setS L at_ b 0).1 = L2 at M4 P1 P2 P3
    clear hE
    go_wp2_with fail
    refine (own_peek M4.out at_ hat b.length).mono ?_
    rintro e w5 ⟨v5, rfl, m5⟩
    rw [P1.out] at m5 ⊢
    have M5 := Lib.hid m5.swap; clear m5 M4
    go_wp2_with fail
    refine (own_peek M5.out other hot 1).mono ?_
    rintro e w6 ⟨v6, rfl, m6⟩
    rw [P2.out]
    have k5 := m6.right.right.bt.conv
    have kb := conv_src (c := c) (HBS.out.src m6.bel)
    have k3 := m6.right.right.right.bt.conv
    have k6 := m6.bt.conv
    have HB6 := Lib.hid m6.bel
    clear m6 M5 HBS
    by_cases he : (getS L other 1 0).2 = 0
    · by_cases hd : other < at_ ∨ at_ + b.length ≤ other
      · rw [P3.out he hd] at k6
        rw [he]
        clear P1 P2 P3 he
        rcases hd with hd | hd
        · have n1 : ¬ at_ ≤ other := by omega
          go_wp2
          go_ret
          exact ⟨by simp, HB6.out⟩
        · have n1 : at_ ≤ other := by omega
          have n2 : ¬ other - at_ < (b.length : Int) := by omega
          go_wp2
          go_ret
          exact ⟨by simp, HB6.out⟩
      · have n1 : at_ ≤ other := by omega
        have n2 : other - at_ < (b.length : Int) := by omega
        rw [he]
        clear P1 P2 P3 he hd
        go_wp2
        go_ret
        exact ⟨by simp, HB6.out⟩
    · have ee : ((getS L other 1 0).2 == 0) = false := beq_eq_false_iff_ne.2 he
      generalize (getS L other 1 0).2 = E at *
      clear P1 P2 P3
      go_wp2
      go_ret
      exact ⟨by simp, HB6.out⟩
  · have ee : ((setS L at_ b 0).2 == 0) = false := beq_eq_false_iff_ne.2 hE
    generalize (setS L at_ b 0).2 = E at *
    have HB4 := Lib.hid M4.out.bel
    clear M4 hE
    go_wp2
    go_ret
    exact ⟨by simp, HB4.out⟩
end Go.Proofs.Ytblmppdfdihogaa
