/-
  Layer 15: the walk of PlaceRefuses.
  Conditions: none. (My own text.)
-/
import Derived.Test.YtlkelfaokbdddaaPlt
import Derived.Test.YtlkelfaokbdddaaPls
namespace Go.Proofs.Ytlkelfaokbdddaa
open Go.RowKit Spm
set_option linter.unusedVariables false
set_option linter.unusedSimpArgs false

set_option maxRecDepth 100000 in
set_option maxHeartbeats 4000000 in
theorem refuses15_walk (v : Value) (l : List ActM) (vs : Value) (sl : List Sg) (w : World) (hv : ActsV w w.heap.size v l) (hs : SegsAt w (fun k => k < w.heap.size) vs sl) :
    Calls Try.prog 5 #[v, vs] w fun e w' => e = .returned (.bool true) ∧ Below w.heap.size w w' := by
  have HV := Lib.hid hv
  have HSG := Lib.hid hs
  obtain ⟨A, c, rfl, hc, hm, hrow⟩ := hs.rows
  have HROW := Lib.hid hrow
  clear hv hs hrow
  unfold maxLen at hm
  go_enter Try.func5, Try.ntmps5
  go_wp2_with fail
  refine (awake15 w).mono ?_
  rintro e w1 ⟨rfl, hb⟩
  have H1 := Lib.hid hb
  clear hb
  go_wp2_with fail
  refine (played_any H1.out H1.out.size v l HV.out).mono ?_
  rintro e w2 ⟨a, rfl, m⟩
  have M2 := Lib.hid (Has.of_mine m)
  clear m H1 HV
  generalize playS [] (l.map (·.x)) = L at M2
  go_wp2_with fail
  go_loopw [7] (fun i wr => ∃ k : Nat, k ≤ sl.length ∧ i = .int .i64 k ∧ wr = w2 ∧ Hid (∀ j s, j < k → sl[j]? = some s → SgOk s)) (fun i _ => sl.length - (intOf i).toNat)
  case atStart => exact ⟨0, Nat.zero_le _, rfl, rfl, Lib.hid (fun j s hj => absurd hj (Nat.not_lt_zero _))⟩
  case round =>
    obtain ⟨k, hk, rfl, rfl, HOK⟩ := hrel
    by_cases hkn : k < sl.length
    · obtain ⟨s, hs⟩ : ∃ s, sl[k]? = some s := ⟨_, List.getElem?_eq_getElem hkn⟩
      obtain ⟨b, off, hA, hbB, hlt, hcell0⟩ := HROW.out k s hs
      have s0 : wr.cell? ⟨b, off + k * 4, none⟩ = some (.int .i64 s.at_) := (M2.out.bel.cell (p := ⟨b, off + k * 4, none⟩) hbB).trans (hcell0 0 _ rfl)
      have s1 : wr.cell? ⟨b, off + k * 4 + 1, none⟩ = some (.int .i64 s.sz) := (M2.out.bel.cell (p := ⟨b, off + k * 4 + 1, none⟩) hbB).trans (hcell0 1 _ rfl)
      have HS := Lib.hid hs
      have MZ := Lib.hid M2.out.bel
      have i1 : intOf (Value.int .i64 ((k : Int) + 1)) = (k : Int) + 1 := rfl
      have i2 : intOf (Value.int .i64 (k : Int)) = (k : Int) := rfl
      subst hA
      clear hcell0 hlt hbB hs
      by_cases h1 : s.at_ < 0
      · have d1 : decide (s.at_ < 0) = true := decide_eq_true h1
        go_wp2
        go_ret
        exact ⟨rfl, MZ.out⟩
      · have d1 : decide (s.at_ < 0) = false := decide_eq_false h1
        by_cases h2 : 1048576 < s.at_
        · have d2 : decide (1048576 < s.at_) = true := decide_eq_true h2
          go_wp2
          go_ret
          exact ⟨rfl, MZ.out⟩
        · have d2 : decide (1048576 < s.at_) = false := decide_eq_false h2
          by_cases h3 : 524288 < s.sz
          · have d3 : decide (524288 < s.sz) = true := decide_eq_true h3
            go_wp2
            go_ret
            exact ⟨rfl, MZ.out⟩
          · have d3 : decide (524288 < s.sz) = false := decide_eq_false h3
            by_cases h4 : s.sz < -1048576
            · have d4 : decide (s.sz < -1048576) = true := decide_eq_true h4
              go_wp2
              go_ret
              exact ⟨rfl, MZ.out⟩
            · have d4 : decide (s.sz < -1048576) = false := decide_eq_false h4
              have HOK2 : Hid (∀ j s, j < k + 1 → sl[j]? = some s → SgOk s) := Lib.hid (fun j t hj ht => by
                rcases Nat.lt_or_ge j k with h | h
                · exact HOK.out j t h ht
                · obtain rfl : j = k := by omega
                  rw [HS.out] at ht
                  obtain rfl : s = t := by simpa using ht
                  exact ⟨by omega, by omega, by omega, by omega⟩)
              clear MZ
              go_wp2_with fail
              go_roundw
              case rel => exact ⟨k + 1, hkn, rfl, by first | trivial | rfl, HOK2⟩
              case measure => omega
    · have hkl : k = sl.length := by omega
      have HSO : Hid (∀ s ∈ sl, SgOk s) := Lib.hid (fun s hs => by
        obtain ⟨j, hj⟩ := List.mem_iff_getElem?.1 hs
        exact HOK.out j s (by rw [hkl]; exact (List.getElem?_eq_some_iff.1 hj).1) hj)
      have hge : ¬ ((k : Int) < (sl.length : Int)) := by omega
      clear HOK hkl
      go_wp2_with fail
      refine (own_regions M2.out).mono ?_
      rintro e w3 ⟨v8, rfl, m3⟩
      have M3 := Lib.hid m3
      clear m3
      have C1 := Lib.hid (pmap_own (M3.out.pick (Sp a L)) img0 (.slice A sl.length c) sl HSG.out HSO.out)
      have HALL := Lib.hid (mapI_all (M2.out).ok sl)
      obtain ⟨⟨L4, at4, e4⟩, hR⟩ : ∃ R, mapI L sl = R := ⟨_, rfl⟩
      rw [hR] at C1 HALL
      clear hR M2
      go_wp2_with fail
      refine (C1.out).mono ?_
      rintro e w4 ⟨rfl, m4⟩
      have M4 := Lib.hid m4
      clear m4 M3 C1
      by_cases he : e4 = 0
      · have heb : (e4 != 0) = false := by simp [he]
        obtain ⟨hlen, hne, _⟩ := HALL.out.2.1 he
        try simp only at hlen
        have hpos : 0 < sl.length := List.length_pos_iff.2 hne
        clear he HALL hne
        go_wp2_with fail
        refine (own_regions M4.out).mono ?_
        rintro e w5 ⟨v9, rfl, m5⟩
        obtain ⟨A9, c9, rfl, _, hm9, _⟩ := (m5.rs).at_
        obtain ⟨A8, c8, rfl, _, hm8, _⟩ := ((m5.pick (Rs v8 L)).rs).at_
        have MZ := Lib.hid m5.bel
        clear m5 M4
        unfold maxLen at hm8 hm9
        have hgo : ((L4.length : Int) == (L.length : Int) + (sl.length : Int)) = true := beq_iff_eq.2 (by omega)
        have hg1 : decide ((0 : Int) < (sl.length : Int)) = true := decide_eq_true (by omega)
        go_wp2
        go_ret
        exact ⟨by first | rfl | (simp; done) | (simp; omega), MZ.out⟩
      · have heb : (e4 != 0) = true := bne_iff_ne.2 he
        obtain ⟨h41, h42⟩ := HALL.out.1 he
        try simp only at h41 h42
        subst h41
        subst h42
        clear HALL he
        go_wp2_with fail
        refine (own_regions M4.out).mono ?_
        rintro e w5 ⟨v9, rfl, m5⟩
        have M5 := Lib.hid m5
        clear m5 M4
        go_wp2_with fail
        refine (same_any (M5.out.pick (Rs v8 _)).rs M5.out.rs rfl).mono ?_
        rintro e w6 ⟨rfl, hb6⟩
        have MZ := Lib.hid (M5.out.stay hb6).bel
        clear M5 hb6
        go_wp2
        go_ret
        exact ⟨by first | rfl | simp, MZ.out⟩
end Go.Proofs.Ytlkelfaokbdddaa
