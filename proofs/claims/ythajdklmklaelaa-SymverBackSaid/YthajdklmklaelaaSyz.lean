/-
  Layer 7: what clevisref07.Parse computes: the same.
  Conditions: none. (My own text.)
-/
import Derived.Test.YthajdklmklaelaaSyq
namespace Go.Proofs.Ythajdklmklaelaa
open Go.RowKit
set_option linter.unusedVariables false
set_option linter.unusedSimpArgs false

theorem atP_before (s : ByteArray) (k : Nat) (hk : k < atP s) (hs : k < s.size) : (((s[k]'hs).toNat : Int) != 64) = true := by
  have h := List.not_of_lt_findIdx (p := fun b : UInt8 => b == 64) (xs := s.data.toList) (i := k) hk
  have e : s.data.toList[k]'(by simpa using hs) = s[k]'hs := rfl
  rw [e] at h
  rw [bne_iff_ne]
  intro hc
  have h2 : (s[k]'hs).toNat = 64 := by omega
  have h3 : s[k]'hs = 64 := UInt8.toNat_inj.1 h2
  rw [h3] at h
  simp at h
theorem atP_there (s : ByteArray) (hs : atP s < s.size) : (((s[atP s]'hs).toNat : Int) != 64) = false := by
  have h := List.findIdx_getElem (p := fun b : UInt8 => b == 64) (xs := s.data.toList) (w := by simpa [atP] using hs)
  have e : s.data.toList[s.data.toList.findIdx (fun b => b == 64)]'(by simpa [atP] using hs) = s[atP s]'hs := rfl
  rw [e, beq_iff_eq] at h
  rw [h]
  rfl
theorem extract_all (s : ByteArray) : s.extract 0 s.size = s := by
  rw [Lib.extract_eq, List.drop_zero, List.take_of_length_le (by simp)]
theorem nameS_empty (v : ByteArray) (h : v.size = 0) : nameS v = false := by
  unfold nameS
  rw [decide_eq_false (show ¬ 1 ≤ v.size by omega), Bool.and_false]
  rfl
theorem at0_empty (v : ByteArray) (h : v.size = 0) : at0 v = false := by
  cases h0 : at0 v
  · rfl
  · have := at0_lt h0; omega
theorem isEmpty_no (v : ByteArray) (h : 0 < v.size) : v.toList.isEmpty = false := by
  rw [Lib.toList_data]
  have e : v.size = v.data.toList.length := by simp
  cases hl : v.data.toList with
  | nil => rw [hl] at e; rw [e] at h; simp at h
  | cons b l => rfl
theorem isEmpty_yes (v : ByteArray) (h : v.size = 0) : v.toList.isEmpty = true := by
  rw [Lib.toList_data]
  have e : v.size = v.data.toList.length := by simp
  cases hl : v.data.toList with
  | nil => rfl
  | cons b l => rw [hl] at e; rw [e] at h; simp at h

set_option maxHeartbeats 1000000 in
theorem refParse_miss_no (s n v : ByteArray) (hs : s.size ≤ maxLen) (d : Bool) (h : ¬ atP s < s.size) (hn : s.extract 0 (atP s) = n) (hb : nameS n = false) (w : World) :
    Calls Try.prog 12 #[.string s, .bool d] w fun e w' => e = .returned (.tuple #[symV ⟨#[]⟩ ⟨#[]⟩ false 0 false 0 false 0 0, .int .i64 70]) ∧ Below w.heap.size w w' := by
  have ln : n.size ≤ maxLen := by rw [← hn]; exact extract_le s _ _ hs
  have N := Lib.hid (fun w : World => (refName_any n ln w).mono fun e w' hh => by rw [hb] at hh; exact hh)
  clear hb
  unfold maxLen at hs
  have HB := Lib.hid (fun k hk hks => atP_before s k hk hks)
  have hle := atP_le s
  go_enter Try.func12, Try.ntmps12
  go_wp2
  go_loop [6] (fun i => ∃ k : Nat, k ≤ atP s ∧ i = .int .i64 k) (fun i => atP s - (intOf i).toNat)
  case atStart => exact ⟨0, Nat.zero_le _, rfl⟩
  case round =>
    obtain ⟨k, hk, rfl⟩ := hrel
    by_cases hlt : k < atP s
    · have hks : k < s.size := by omega
      have hne := HB.out k hlt hks
      go_wp2
      go_round
      case rel => exact ⟨k + 1, by omega, by go_num⟩
      case measure => simp [intOf]; omega
    · obtain rfl : k = atP s := by omega
      have hend : (s.size : Int) ≤ (atP s : Int) := by omega
      go_wp2_with fail
      refine (N.out _).mono ?_
      rintro e w1 ⟨rfl, rfl⟩
      go_wp2
      simp [bodyPost, results, Try.results12, go_sem]
      exact ⟨rfl, ((Below.refl _ _).alloc (Nat.le_refl _) _).alloc (by simp) _⟩

set_option maxHeartbeats 1000000 in
theorem refParse_miss_ok (s n v : ByteArray) (hs : s.size ≤ maxLen) (d : Bool) (h : ¬ atP s < s.size) (hn : s.extract 0 (atP s) = n) (hb : nameS n = true) (w : World) :
    Calls Try.prog 12 #[.string s, .bool d] w fun e w' => e = .returned (.tuple #[symV n ⟨#[]⟩ false 0 false 0 d 0 0, .int .i64 0]) ∧ Below w.heap.size w w' := by
  have ln : n.size ≤ maxLen := by rw [← hn]; exact extract_le s _ _ hs
  have N := Lib.hid (fun w : World => (refName_any n ln w).mono fun e w' hh => by rw [hb] at hh; exact hh)
  clear hb
  unfold maxLen at hs
  have HB := Lib.hid (fun k hk hks => atP_before s k hk hks)
  have hle := atP_le s
  go_enter Try.func12, Try.ntmps12
  go_wp2
  go_loop [6] (fun i => ∃ k : Nat, k ≤ atP s ∧ i = .int .i64 k) (fun i => atP s - (intOf i).toNat)
  case atStart => exact ⟨0, Nat.zero_le _, rfl⟩
  case round =>
    obtain ⟨k, hk, rfl⟩ := hrel
    by_cases hlt : k < atP s
    · have hks : k < s.size := by omega
      have hne := HB.out k hlt hks
      go_wp2
      go_round
      case rel => exact ⟨k + 1, by omega, by go_num⟩
      case measure => simp [intOf]; omega
    · obtain rfl : k = atP s := by omega
      have hend : (s.size : Int) ≤ (atP s : Int) := by omega
      go_wp2_with fail
      refine (N.out _).mono ?_
      rintro e w1 ⟨rfl, rfl⟩
      go_wp2
      simp [bodyPost, results, Try.results12, go_sem]
      exact ⟨rfl, ((Below.refl _ _).alloc (Nat.le_refl _) _).alloc (by simp) _⟩

set_option maxHeartbeats 1000000 in
theorem refParse_end (s n v : ByteArray) (hs : s.size ≤ maxLen) (d : Bool) (h : atP s < s.size) (hn : s.extract 0 (atP s) = n) (hv : s.extract (atP s + 1) s.size = v) (hz : v.size = 0) (w : World) :
    Calls Try.prog 12 #[.string s, .bool d] w fun e w' => e = .returned (.tuple #[symV ⟨#[]⟩ ⟨#[]⟩ false 0 false 0 false 0 0, .int .i64 70]) ∧ Below w.heap.size w w' := by
  have ln : n.size ≤ maxLen := by rw [← hn]; exact extract_le s _ _ hs
  have lv : v.size ≤ maxLen := by rw [← hv]; exact extract_le s _ _ hs
  have h1 := isEmpty_yes v hz
  have hc := nameS_empty v hz
  have V := Lib.hid (fun w : World => (refName_any v lv w).mono fun e w' hh => by rw [hc] at hh; exact hh)
  clear hc
  clear hz
  unfold maxLen at hs
  have HB := Lib.hid (fun k hk hks => atP_before s k hk hks)
  have HT := Lib.hid (atP_there s)
  have hle := atP_le s
  go_enter Try.func12, Try.ntmps12
  go_wp2
  go_loop [6] (fun i => ∃ k : Nat, k ≤ atP s ∧ i = .int .i64 k) (fun i => atP s - (intOf i).toNat)
  case atStart => exact ⟨0, Nat.zero_le _, rfl⟩
  case round =>
    obtain ⟨k, hk, rfl⟩ := hrel
    by_cases hlt : k < atP s
    · have hks : k < s.size := by omega
      have hne := HB.out k hlt hks
      go_wp2
      go_round
      case rel => exact ⟨k + 1, by omega, by go_num⟩
      case measure => simp [intOf]; omega
    · obtain rfl : k = atP s := by omega
      have hthere := HT.out h
      go_wp2_with fail
      refine (V.out _).mono ?_
      rintro e w1 ⟨rfl, rfl⟩
      go_wp2
      simp [bodyPost, results, Try.results12, go_sem]
      exact ⟨rfl, ((Below.refl _ _).alloc (Nat.le_refl _) _).alloc (by simp) _⟩

set_option maxHeartbeats 1000000 in
theorem refParse_one_bad (s n v : ByteArray) (hs : s.size ≤ maxLen) (d : Bool) (h : atP s < s.size) (hn : s.extract 0 (atP s) = n) (hv : s.extract (atP s + 1) s.size = v) (hz : 0 < v.size) (h0 : at0 v = false) (hc : nameS v = false) (w : World) :
    Calls Try.prog 12 #[.string s, .bool d] w fun e w' => e = .returned (.tuple #[symV ⟨#[]⟩ ⟨#[]⟩ false 0 false 0 false 0 0, .int .i64 70]) ∧ Below w.heap.size w w' := by
  have ln : n.size ≤ maxLen := by rw [← hn]; exact extract_le s _ _ hs
  have lv : v.size ≤ maxLen := by rw [← hv]; exact extract_le s _ _ hs
  have h1 := isEmpty_no v hz
  have h2 := at0_get v hz
  rw [h0] at h2
  have hz' : (0 : Int) < (v.size : Int) := by omega
  have V := Lib.hid (fun w : World => (refName_any v lv w).mono fun e w' hh => by rw [hc] at hh; exact hh)
  clear hc
  unfold maxLen at hs
  have HB := Lib.hid (fun k hk hks => atP_before s k hk hks)
  have HT := Lib.hid (atP_there s)
  have hle := atP_le s
  go_enter Try.func12, Try.ntmps12
  go_wp2
  go_loop [6] (fun i => ∃ k : Nat, k ≤ atP s ∧ i = .int .i64 k) (fun i => atP s - (intOf i).toNat)
  case atStart => exact ⟨0, Nat.zero_le _, rfl⟩
  case round =>
    obtain ⟨k, hk, rfl⟩ := hrel
    by_cases hlt : k < atP s
    · have hks : k < s.size := by omega
      have hne := HB.out k hlt hks
      go_wp2
      go_round
      case rel => exact ⟨k + 1, by omega, by go_num⟩
      case measure => simp [intOf]; omega
    · obtain rfl : k = atP s := by omega
      have hthere := HT.out h
      go_wp2_with fail
      refine (V.out _).mono ?_
      rintro e w1 ⟨rfl, rfl⟩
      go_wp2
      simp [bodyPost, results, Try.results12, go_sem]
      exact ⟨rfl, ((Below.refl _ _).alloc (Nat.le_refl _) _).alloc (by simp) _⟩

set_option maxHeartbeats 1000000 in
theorem refParse_one_no (s n v : ByteArray) (hs : s.size ≤ maxLen) (d : Bool) (h : atP s < s.size) (hn : s.extract 0 (atP s) = n) (hv : s.extract (atP s + 1) s.size = v) (hz : 0 < v.size) (h0 : at0 v = false) (hb : nameS n = false) (hc : nameS v = true) (w : World) :
    Calls Try.prog 12 #[.string s, .bool d] w fun e w' => e = .returned (.tuple #[symV ⟨#[]⟩ ⟨#[]⟩ false 0 false 0 false 0 0, .int .i64 70]) ∧ Below w.heap.size w w' := by
  have ln : n.size ≤ maxLen := by rw [← hn]; exact extract_le s _ _ hs
  have lv : v.size ≤ maxLen := by rw [← hv]; exact extract_le s _ _ hs
  have N := Lib.hid (fun w : World => (refName_any n ln w).mono fun e w' hh => by rw [hb] at hh; exact hh)
  clear hb
  have h1 := isEmpty_no v hz
  have h2 := at0_get v hz
  rw [h0] at h2
  have hz' : (0 : Int) < (v.size : Int) := by omega
  have V := Lib.hid (fun w : World => (refName_any v lv w).mono fun e w' hh => by rw [hc] at hh; exact hh)
  clear hc
  unfold maxLen at hs
  have HB := Lib.hid (fun k hk hks => atP_before s k hk hks)
  have HT := Lib.hid (atP_there s)
  have hle := atP_le s
  go_enter Try.func12, Try.ntmps12
  go_wp2
  go_loop [6] (fun i => ∃ k : Nat, k ≤ atP s ∧ i = .int .i64 k) (fun i => atP s - (intOf i).toNat)
  case atStart => exact ⟨0, Nat.zero_le _, rfl⟩
  case round =>
    obtain ⟨k, hk, rfl⟩ := hrel
    by_cases hlt : k < atP s
    · have hks : k < s.size := by omega
      have hne := HB.out k hlt hks
      go_wp2
      go_round
      case rel => exact ⟨k + 1, by omega, by go_num⟩
      case measure => simp [intOf]; omega
    · obtain rfl : k = atP s := by omega
      have hthere := HT.out h
      go_wp2_with fail
      refine (V.out _).mono ?_
      rintro e w1 ⟨rfl, rfl⟩
      go_wp2_with fail
      refine (N.out _).mono ?_
      rintro e w1 ⟨rfl, rfl⟩
      go_wp2
      simp [bodyPost, results, Try.results12, go_sem]
      exact ⟨rfl, ((Below.refl _ _).alloc (Nat.le_refl _) _).alloc (by simp) _⟩

set_option maxHeartbeats 1000000 in
theorem refParse_one_ok (s n v : ByteArray) (hs : s.size ≤ maxLen) (d : Bool) (h : atP s < s.size) (hn : s.extract 0 (atP s) = n) (hv : s.extract (atP s + 1) s.size = v) (hz : 0 < v.size) (h0 : at0 v = false) (hb : nameS n = true) (hc : nameS v = true) (w : World) :
    Calls Try.prog 12 #[.string s, .bool d] w fun e w' => e = .returned (.tuple #[symV n v d 0 false 0 d 0 0, .int .i64 0]) ∧ Below w.heap.size w w' := by
  have ln : n.size ≤ maxLen := by rw [← hn]; exact extract_le s _ _ hs
  have lv : v.size ≤ maxLen := by rw [← hv]; exact extract_le s _ _ hs
  have N := Lib.hid (fun w : World => (refName_any n ln w).mono fun e w' hh => by rw [hb] at hh; exact hh)
  clear hb
  have h1 := isEmpty_no v hz
  have h2 := at0_get v hz
  rw [h0] at h2
  have hz' : (0 : Int) < (v.size : Int) := by omega
  have V := Lib.hid (fun w : World => (refName_any v lv w).mono fun e w' hh => by rw [hc] at hh; exact hh)
  clear hc
  unfold maxLen at hs
  have HB := Lib.hid (fun k hk hks => atP_before s k hk hks)
  have HT := Lib.hid (atP_there s)
  have hle := atP_le s
  go_enter Try.func12, Try.ntmps12
  go_wp2
  go_loop [6] (fun i => ∃ k : Nat, k ≤ atP s ∧ i = .int .i64 k) (fun i => atP s - (intOf i).toNat)
  case atStart => exact ⟨0, Nat.zero_le _, rfl⟩
  case round =>
    obtain ⟨k, hk, rfl⟩ := hrel
    by_cases hlt : k < atP s
    · have hks : k < s.size := by omega
      have hne := HB.out k hlt hks
      go_wp2
      go_round
      case rel => exact ⟨k + 1, by omega, by go_num⟩
      case measure => simp [intOf]; omega
    · obtain rfl : k = atP s := by omega
      have hthere := HT.out h
      go_wp2_with fail
      refine (V.out _).mono ?_
      rintro e w1 ⟨rfl, rfl⟩
      go_wp2_with fail
      refine (N.out _).mono ?_
      rintro e w1 ⟨rfl, rfl⟩
      go_wp2
      simp [bodyPost, results, Try.results12, go_sem]
      exact ⟨rfl, ((Below.refl _ _).alloc (Nat.le_refl _) _).alloc (by simp) _⟩

set_option maxHeartbeats 1000000 in
theorem refParse_two_ref (s n v : ByteArray) (hs : s.size ≤ maxLen) (h : atP s < s.size) (hn : s.extract 0 (atP s) = n) (hv : s.extract (atP s + 1) s.size = v) (hz : 0 < v.size) (h0 : at0 v = true) (w : World) :
    Calls Try.prog 12 #[.string s, .bool false] w fun e w' => e = .returned (.tuple #[symV ⟨#[]⟩ ⟨#[]⟩ false 0 false 0 false 0 0, .int .i64 70]) ∧ Below w.heap.size w w' := by
  have ln : n.size ≤ maxLen := by rw [← hn]; exact extract_le s _ _ hs
  have lv : v.size ≤ maxLen := by rw [← hv]; exact extract_le s _ _ hs
  have h1 := isEmpty_no v hz
  have h2 := at0_get v hz
  rw [h0] at h2
  have hz' : (0 : Int) < (v.size : Int) := by omega
  have hz1 : 1 ≤ v.size := hz
  unfold maxLen at hs
  have HB := Lib.hid (fun k hk hks => atP_before s k hk hks)
  have HT := Lib.hid (atP_there s)
  have hle := atP_le s
  go_enter Try.func12, Try.ntmps12
  go_wp2
  go_loop [6] (fun i => ∃ k : Nat, k ≤ atP s ∧ i = .int .i64 k) (fun i => atP s - (intOf i).toNat)
  case atStart => exact ⟨0, Nat.zero_le _, rfl⟩
  case round =>
    obtain ⟨k, hk, rfl⟩ := hrel
    by_cases hlt : k < atP s
    · have hks : k < s.size := by omega
      have hne := HB.out k hlt hks
      go_wp2
      go_round
      case rel => exact ⟨k + 1, by omega, by go_num⟩
      case measure => simp [intOf]; omega
    · obtain rfl : k = atP s := by omega
      have hthere := HT.out h
      go_wp2
      simp [bodyPost, results, Try.results12, go_sem]
      exact ⟨rfl, ((Below.refl _ _).alloc (Nat.le_refl _) _).alloc (by simp) _⟩

set_option maxHeartbeats 1000000 in
theorem refParse_two_bad (s n v : ByteArray) (hs : s.size ≤ maxLen) (h : atP s < s.size) (hn : s.extract 0 (atP s) = n) (hv : s.extract (atP s + 1) s.size = v) (hz : 0 < v.size) (h0 : at0 v = true) (hc : nameS (v.extract 1 v.size) = false) (w : World) :
    Calls Try.prog 12 #[.string s, .bool true] w fun e w' => e = .returned (.tuple #[symV ⟨#[]⟩ ⟨#[]⟩ false 0 false 0 false 0 0, .int .i64 70]) ∧ Below w.heap.size w w' := by
  have ln : n.size ≤ maxLen := by rw [← hn]; exact extract_le s _ _ hs
  have lv : v.size ≤ maxLen := by rw [← hv]; exact extract_le s _ _ hs
  have h1 := isEmpty_no v hz
  have h2 := at0_get v hz
  rw [h0] at h2
  have hz' : (0 : Int) < (v.size : Int) := by omega
  have hz1 : 1 ≤ v.size := hz
  have lu : (v.extract 1 v.size).size ≤ maxLen := extract_le v _ _ lv
  have V := Lib.hid (fun w : World => (refName_any (v.extract 1 v.size) lu w).mono fun e w' hh => by rw [hc] at hh; exact hh)
  clear hc
  unfold maxLen at hs
  have HB := Lib.hid (fun k hk hks => atP_before s k hk hks)
  have HT := Lib.hid (atP_there s)
  have hle := atP_le s
  go_enter Try.func12, Try.ntmps12
  go_wp2
  go_loop [6] (fun i => ∃ k : Nat, k ≤ atP s ∧ i = .int .i64 k) (fun i => atP s - (intOf i).toNat)
  case atStart => exact ⟨0, Nat.zero_le _, rfl⟩
  case round =>
    obtain ⟨k, hk, rfl⟩ := hrel
    by_cases hlt : k < atP s
    · have hks : k < s.size := by omega
      have hne := HB.out k hlt hks
      go_wp2
      go_round
      case rel => exact ⟨k + 1, by omega, by go_num⟩
      case measure => simp [intOf]; omega
    · obtain rfl : k = atP s := by omega
      have hthere := HT.out h
      go_wp2_with fail
      refine (V.out _).mono ?_
      rintro e w1 ⟨rfl, rfl⟩
      go_wp2
      simp [bodyPost, results, Try.results12, go_sem]
      exact ⟨rfl, ((Below.refl _ _).alloc (Nat.le_refl _) _).alloc (by simp) _⟩

set_option maxHeartbeats 1000000 in
theorem refParse_two_no (s n v : ByteArray) (hs : s.size ≤ maxLen) (h : atP s < s.size) (hn : s.extract 0 (atP s) = n) (hv : s.extract (atP s + 1) s.size = v) (hz : 0 < v.size) (h0 : at0 v = true) (hb : nameS n = false) (hc : nameS (v.extract 1 v.size) = true) (w : World) :
    Calls Try.prog 12 #[.string s, .bool true] w fun e w' => e = .returned (.tuple #[symV ⟨#[]⟩ ⟨#[]⟩ false 0 false 0 false 0 0, .int .i64 70]) ∧ Below w.heap.size w w' := by
  have ln : n.size ≤ maxLen := by rw [← hn]; exact extract_le s _ _ hs
  have lv : v.size ≤ maxLen := by rw [← hv]; exact extract_le s _ _ hs
  have N := Lib.hid (fun w : World => (refName_any n ln w).mono fun e w' hh => by rw [hb] at hh; exact hh)
  clear hb
  have h1 := isEmpty_no v hz
  have h2 := at0_get v hz
  rw [h0] at h2
  have hz' : (0 : Int) < (v.size : Int) := by omega
  have hz1 : 1 ≤ v.size := hz
  have lu : (v.extract 1 v.size).size ≤ maxLen := extract_le v _ _ lv
  have V := Lib.hid (fun w : World => (refName_any (v.extract 1 v.size) lu w).mono fun e w' hh => by rw [hc] at hh; exact hh)
  clear hc
  unfold maxLen at hs
  have HB := Lib.hid (fun k hk hks => atP_before s k hk hks)
  have HT := Lib.hid (atP_there s)
  have hle := atP_le s
  go_enter Try.func12, Try.ntmps12
  go_wp2
  go_loop [6] (fun i => ∃ k : Nat, k ≤ atP s ∧ i = .int .i64 k) (fun i => atP s - (intOf i).toNat)
  case atStart => exact ⟨0, Nat.zero_le _, rfl⟩
  case round =>
    obtain ⟨k, hk, rfl⟩ := hrel
    by_cases hlt : k < atP s
    · have hks : k < s.size := by omega
      have hne := HB.out k hlt hks
      go_wp2
      go_round
      case rel => exact ⟨k + 1, by omega, by go_num⟩
      case measure => simp [intOf]; omega
    · obtain rfl : k = atP s := by omega
      have hthere := HT.out h
      go_wp2_with fail
      refine (V.out _).mono ?_
      rintro e w1 ⟨rfl, rfl⟩
      go_wp2_with fail
      refine (N.out _).mono ?_
      rintro e w1 ⟨rfl, rfl⟩
      go_wp2
      simp [bodyPost, results, Try.results12, go_sem]
      exact ⟨rfl, ((Below.refl _ _).alloc (Nat.le_refl _) _).alloc (by simp) _⟩

set_option maxHeartbeats 1000000 in
theorem refParse_two_ok (s n v : ByteArray) (hs : s.size ≤ maxLen) (h : atP s < s.size) (hn : s.extract 0 (atP s) = n) (hv : s.extract (atP s + 1) s.size = v) (hz : 0 < v.size) (h0 : at0 v = true) (hb : nameS n = true) (hc : nameS (v.extract 1 v.size) = true) (w : World) :
    Calls Try.prog 12 #[.string s, .bool true] w fun e w' => e = .returned (.tuple #[symV n (v.extract 1 v.size) false 0 false 0 true 0 0, .int .i64 0]) ∧ Below w.heap.size w w' := by
  have ln : n.size ≤ maxLen := by rw [← hn]; exact extract_le s _ _ hs
  have lv : v.size ≤ maxLen := by rw [← hv]; exact extract_le s _ _ hs
  have N := Lib.hid (fun w : World => (refName_any n ln w).mono fun e w' hh => by rw [hb] at hh; exact hh)
  clear hb
  have h1 := isEmpty_no v hz
  have h2 := at0_get v hz
  rw [h0] at h2
  have hz' : (0 : Int) < (v.size : Int) := by omega
  have hz1 : 1 ≤ v.size := hz
  have lu : (v.extract 1 v.size).size ≤ maxLen := extract_le v _ _ lv
  have V := Lib.hid (fun w : World => (refName_any (v.extract 1 v.size) lu w).mono fun e w' hh => by rw [hc] at hh; exact hh)
  clear hc
  unfold maxLen at hs
  have HB := Lib.hid (fun k hk hks => atP_before s k hk hks)
  have HT := Lib.hid (atP_there s)
  have hle := atP_le s
  go_enter Try.func12, Try.ntmps12
  go_wp2
  go_loop [6] (fun i => ∃ k : Nat, k ≤ atP s ∧ i = .int .i64 k) (fun i => atP s - (intOf i).toNat)
  case atStart => exact ⟨0, Nat.zero_le _, rfl⟩
  case round =>
    obtain ⟨k, hk, rfl⟩ := hrel
    by_cases hlt : k < atP s
    · have hks : k < s.size := by omega
      have hne := HB.out k hlt hks
      go_wp2
      go_round
      case rel => exact ⟨k + 1, by omega, by go_num⟩
      case measure => simp [intOf]; omega
    · obtain rfl : k = atP s := by omega
      have hthere := HT.out h
      go_wp2_with fail
      refine (V.out _).mono ?_
      rintro e w1 ⟨rfl, rfl⟩
      go_wp2_with fail
      refine (N.out _).mono ?_
      rintro e w1 ⟨rfl, rfl⟩
      go_wp2
      simp [bodyPost, results, Try.results12, go_sem]
      exact ⟨rfl, ((Below.refl _ _).alloc (Nat.le_refl _) _).alloc (by simp) _⟩

-- PATHS
end Go.Proofs.Ythajdklmklaelaa
