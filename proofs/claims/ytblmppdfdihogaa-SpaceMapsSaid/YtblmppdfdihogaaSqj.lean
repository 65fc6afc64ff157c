/-
  SpaceMaps: the walk.
  Conditions: none. (My own text.)
-/
import Derived.Test.YtblmppdfdihogaaSqd
import Derived.Test.YtblmppdfdihogaaSqh
namespace Go.Proofs.Ytblmppdfdihogaa
open Go.RowKit Spm
set_option linter.unusedVariables false
set_option linter.unusedSimpArgs false

set_option maxHeartbeats 4000000 in
theorem maps_walk (v : Value) (l : List ActM) (size p : Int) (w : World) (hv : ActsV w w.heap.size v l) :
    Calls Try.prog 7 #[v, .int .i64 size, .int .i64 p] w fun e w' => e = .returned (.bool true) ∧ Below w.heap.size w w' := by
  have A1 := Lib.hid awake_any
  have C1 : Hid (∀ {w1 : World}, Below w.heap.size w w1 → Calls Try.prog 11 #[v] w1 fun e w' => ∃ a, e = .returned (.pointer (some ⟨a, 0, none⟩)) ∧ Mine w.heap.size w w' a (playS [] (l.map (·.x)))) := Lib.hid (fun h => played_any h h.size v l hv)
  generalize playS [] (l.map (·.x)) = L at C1
  clear hv
  go_enter Try.func7, Try.ntmps7
  go_wp2_with fail
  refine (A1.out _).mono ?_
  rintro e w1 ⟨rfl, h1⟩
  have H1 := Lib.hid h1; clear h1
  go_wp2_with fail
  refine (C1.out H1.out).mono ?_
  rintro e w2 ⟨a, rfl, m2⟩
  have M2 := Lib.hid (Has.of_mine m2); clear m2
  have HOK := Lib.hid M2.out.ok
  go_wp2_with fail
  refine (own_regions M2.out).mono ?_
  rintro e w3 ⟨v3, rfl, m3⟩
  have M3 := Lib.hid m3.swap; clear m3 M2
  go_wp2_with fail
  refine (own_map M3.out size p).mono ?_
  rintro e w4 ⟨rfl, m4⟩
  have M4 := Lib.hid m4; clear m4 M3
  by_cases hE : (mapS L size p).2.2 = 0
  · have HN := Lib.hid (map_new HOK.out hE)
    rw [hE]
    obtain ⟨⟨L2, g, e2⟩, hr⟩ : ∃ r, mapS L size p = r := ⟨_, rfl⟩
    rw [hr] at M4 HN ⊢
    simp only at M4 HN ⊢
    clear hr hE
    have n1 := HN.out.n1
    have n2 := HN.out.n2
    have n3 := HN.out.p0
    have n4 := HN.out.p7
    have n5 := HN.out.g0
    have hup := up_ge size n1
    have n6 : g ≤ 4294967296 := by have := HN.out.g1; omega
    clear hup
    obtain ⟨n, rfl⟩ : ∃ n : Nat, size = n := ⟨size.toNat, by omega⟩
    go_wp2_with fail
    refine (own_peek M4.out g (by omega) n).mono ?_
    rintro e w5 ⟨v5, rfl, m5⟩
    rw [HN.out.peek] at m5 ⊢
    rw [Int.toNat_natCast] at m5
    obtain ⟨A5, c5, rfl, hc5x, hc5, hs5⟩ := m5.bt.src'
    rw [List.length_replicate] at hc5x
    rw [List.length_replicate]
    rw [List.length_replicate] at m5
    have M5 := Lib.hid m5.swap; clear m5 M4 hs5
    obtain ⟨A3, c3, rfl, _, hm3, _⟩ := M5.out.right.right.rs.at_
    go_wp2_with fail
    refine (own_regions M5.out).mono ?_
    rintro e w6 ⟨v6, rfl, m6⟩
    obtain ⟨A6, c6, rfl, _, hm6, _⟩ := m6.rs.at_
    have hlen : L2.length = L.length + 1 := HN.out.len
    have hl6 : L.length + 1 ≤ 67108864 := by have := m6.right.ok.len; omega
    have M6 := Lib.hid m6; clear m6 M5
    rw [hlen]
    rw [hlen] at M6
    clear hlen
    have hz : ∃ bb off, A5 = some ⟨bb, off, none⟩ ∧ ∀ k, k < n → w6.cell? ⟨bb, off + k, none⟩ = some (.int .u8 0) := by
      obtain ⟨A', c', e', _, hs'⟩ := M6.out.right.right.bt.src
      simp only [Value.slice.injEq, List.length_replicate, true_and] at e'
      obtain ⟨rfl, rfl⟩ := e'
      obtain ⟨bb, off, h1, h2⟩ := hs' (by intro e; have := congrArg List.length e; simp at this; omega)
      exact ⟨bb, off, h1, fun k hk => h2 k 0 (by rw [List.getElem?_replicate, if_pos hk])⟩
    obtain ⟨bb, off, rfl, hz⟩ := hz
    have HZ := Lib.hid hz; clear hz
    have hnl : n ≤ c5 := hc5x
    go_wp2_with fail
    go_loop [13] (fun i => ∃ k : Nat, k ≤ n ∧ i = .int .i64 k) (fun i => n - (intOf i).toNat)
    case atStart => exact ⟨0, Nat.zero_le _, rfl⟩
    case round =>
      obtain ⟨k, hk, rfl⟩ := hrel
      by_cases hlt : k < n
      · have c0 := HZ.out k hlt
        have i1 : (k : Int) < (n : Int) := by omega
        go_wp2
        go_round
        case rel => exact ⟨k + 1, by omega, by go_num⟩
        case measure => simp [intOf]; omega
      · have hrd := HN.out.read
        have C7 := Lib.hid (own_read M6.out.swap g (by omega) n)
        have HG := Lib.hid HN.out.gone
        have HT := Lib.hid HN.out.twice
        by_cases hp : p % 2 = 1
        · rw [if_pos hp] at hrd
          rw [hrd] at C7
          clear HN hrd
          go_wp2_with fail
          refine (C7.out).mono ?_
          rintro e w7 ⟨v7, rfl, m7⟩
          have M7 := Lib.hid m7.right; clear m7 M6 C7
          have C8 := Lib.hid (own_unmap M7.out g)
          rw [HG.out] at C8
          go_wp2_with fail
          refine (C8.out).mono ?_
          rintro e w8 ⟨rfl, m8⟩
          have M8 := Lib.hid m8; clear m8 M7 C8
          go_wp2_with fail
          refine (own_regions M8.out).mono ?_
          rintro e w9 ⟨v9, rfl, m9⟩
          have M9 := Lib.hid m9; clear m9 M8
          go_wp2_with fail
          refine (same_any M9.out.right.right.right.right.rs M9.out.rs rfl).mono ?_
          rintro e w10 ⟨rfl, h10⟩
          have M10 := Lib.hid (M9.out.stay h10).swap
          clear M9 h10
          have C11 := Lib.hid (own_unmap M10.out g)
          rw [HT.out] at C11
          go_wp2_with fail
          refine (C11.out).mono ?_
          rintro e w11 ⟨rfl, m11⟩
          have HB := Lib.hid m11.bel
          clear m11 M10 C11
          go_wp2
          go_ret
          exact ⟨by simp, HB.out⟩
        · rw [if_neg hp] at hrd
          rw [hrd] at C7
          have hp0 : p % 2 = 0 := by omega
          clear HN hrd
          go_wp2_with fail
          refine (C7.out).mono ?_
          rintro e w7 ⟨v7, rfl, m7⟩
          have M7 := Lib.hid m7.right; clear m7 M6 C7
          have C8 := Lib.hid (own_unmap M7.out g)
          rw [HG.out] at C8
          go_wp2_with fail
          refine (C8.out).mono ?_
          rintro e w8 ⟨rfl, m8⟩
          have M8 := Lib.hid m8; clear m8 M7 C8
          go_wp2_with fail
          refine (own_regions M8.out).mono ?_
          rintro e w9 ⟨v9, rfl, m9⟩
          have M9 := Lib.hid m9; clear m9 M8
          go_wp2_with fail
          refine (same_any M9.out.right.right.right.right.rs M9.out.rs rfl).mono ?_
          rintro e w10 ⟨rfl, h10⟩
          have M10 := Lib.hid (M9.out.stay h10).swap
          clear M9 h10
          have C11 := Lib.hid (own_unmap M10.out g)
          rw [HT.out] at C11
          go_wp2_with fail
          refine (C11.out).mono ?_
          rintro e w11 ⟨rfl, m11⟩
          have HB := Lib.hid m11.bel
          clear m11 M10 C11
          go_wp2
          go_ret
          exact ⟨by simp, HB.out⟩
  · have P := Lib.hid (map_err HOK.out hE)
    have ee : ((mapS L size p).2.2 == 0) = false := beq_eq_false_iff_ne.2 hE
    obtain ⟨⟨rL, rn, re⟩, hr⟩ : ∃ r, mapS L size p = r := ⟨_, rfl⟩
    rw [hr] at M4 P ee ⊢
    simp only at M4 P ee ⊢
    clear hr hE
    obtain ⟨rfl, rfl⟩ := P.out
    clear P
    go_wp2_with fail
    refine (own_regions M4.out).mono ?_
    rintro e w5 ⟨v5, rfl, m5⟩
    have M5 := Lib.hid m5; clear m5 M4
    go_wp2_with fail
    refine (same_any M5.out.right.right.rs M5.out.rs rfl).mono ?_
    rintro e w6 ⟨rfl, h6⟩
    have HB := Lib.hid (M5.out.stay h6).bel
    clear M5 h6
    go_wp2
    go_ret
    exact ⟨by simp, HB.out⟩
end Go.Proofs.Ytblmppdfdihogaa
