/-
  Layer 7: strings.Cut and strings.CutPrefix at the sign @.
  Conditions: none. (My own text.)
-/
import Derived.Test.YthajdklmklaelaaSyw
namespace Go.Proofs.Ythajdklmklaelaa
open Go.RowKit
set_option linter.unusedVariables false
set_option linter.unusedSimpArgs false

/-- Where the first sign @ stands; the length: there is none. -/
def atP (s : ByteArray) : Nat := s.data.toList.findIdx (· == 64)

theorem atP_le (s : ByteArray) : atP s ≤ s.size := by
  have := List.findIdx_le_length (p := fun b : UInt8 => b == 64) (xs := s.data.toList)
  simpa [atP] using this

theorem indexByte_findIdx (c : UInt8) : ∀ l : List UInt8, Lib.indexByte l c = if l.findIdx (· == c) < l.length then ((l.findIdx (· == c) : Nat) : Int) else -1
  | [] => by simp [Lib.indexByte]
  | b :: l => by
    unfold Lib.indexByte
    rw [indexByte_findIdx c l, List.findIdx_cons]
    by_cases h : (b == c) = true
    · simp [h]
    · have h' : (b == c) = false := by simpa using h
      simp only [h', Bool.false_eq_true, if_false, cond_false, List.length_cons, Nat.add_lt_add_iff_right]
      by_cases h2 : l.findIdx (· == c) < l.length
      · simp only [h2, if_true]
        rw [if_neg (by simp)]
        simp
      · simp [h2]

theorem ix_hit {s : ByteArray} (h : atP s < s.size) : Lib.indexByte s.data.toList 64 = (atP s : Int) := by
  rw [indexByte_findIdx, if_pos (by simpa [atP] using h)]
  rfl
theorem ix_miss {s : ByteArray} (h : ¬ atP s < s.size) : Lib.indexByte s.data.toList 64 = -1 := by
  rw [indexByte_findIdx, if_neg (by simpa [atP] using h)]

theorem indexByte_any (s : ByteArray) (c : Int) (w : World) :
    Calls Try.prog 31 #[.string s, .int .u8 c] w fun e w' => e = .returned (.int .i64 (Lib.indexByte s.data.toList c.toNat.toUInt8)) ∧ w = w' := by
  go_enter Try.func31, Try.ntmps31
  go_wp2
  rw [run_callFunc_extern Try.func35 (by kernel_rfl) (by kernel_rfl) (by kernel_rfl) (e := Extern.BytealgIndexByte.indexByte) (by kernel_rfl), Lib.run_indexByteString]
  simp only [Result.andThen]
  rw [Oper.upon_value]
  go_wp2
  go_ret
  exact ⟨rfl, rfl⟩

theorem index_any (s : ByteArray) (w : World) :
    Calls Try.prog 29 #[.string s, .string ⟨#[64]⟩] w fun e w' => e = .returned (.int .i64 (Lib.indexByte s.data.toList 64)) ∧ w = w' := by
  have C := Lib.hid (fun w : World => indexByte_any s 64 w)
  by_cases h : ([64] == s.toList) = true
  · have hx : Lib.indexByte s.data.toList 64 = 0 := by
      rw [Lib.toList_data, beq_iff_eq] at h
      rw [← h]
      rfl
    have HX := Lib.hid hx; clear hx
    go_enter Try.func29, Try.ntmps29
    go_wp2
    go_ret
    exact ⟨by rw [HX.out]; rfl, rfl⟩
  · have h' : ([64] == s.toList) = false := by simpa using h
    clear h
    go_enter Try.func29, Try.ntmps29
    go_wp2_with fail
    refine (C.out _).mono ?_
    rintro e w1 ⟨rfl, rfl⟩
    go_wp2
    go_ret
    exact ⟨rfl, rfl⟩

set_option maxHeartbeats 400000 in
theorem cut1_hit (s : ByteArray) (hs : s.size ≤ maxLen) (h : atP s < s.size) (w : World) :
    Calls Try.prog 27 #[.string s, .string ⟨#[64]⟩] w fun e w' => e = .returned (.tuple #[.string (s.extract 0 (atP s)), .string (s.extract (atP s + 1) s.size), .bool true]) ∧ ∃ n, w' = w.drewN n := by
  unfold maxLen at hs
  have hx := ix_hit h
  have C := Lib.hid (fun w : World => (index_any s w).mono fun e w' hh => by rw [hx] at hh; exact hh)
  clear hx
  obtain ⟨k, hk⟩ : ∃ k, k = atP s := ⟨_, rfl⟩
  rw [← hk] at h C ⊢
  clear hk
  go_enter Try.func27, Try.ntmps27
  go_wp2_with fail
  refine (C.out _).mono ?_
  rintro e w1 ⟨rfl, rfl⟩
  go_wp2_with fail
  go_quiet (fail)
  go_wp2
  go_ret3
  exact ⟨rfl, _, rfl⟩

set_option maxHeartbeats 400000 in
theorem cut1_miss (s : ByteArray) (h : ¬ atP s < s.size) (w : World) :
    Calls Try.prog 27 #[.string s, .string ⟨#[64]⟩] w fun e w' => e = .returned (.tuple #[.string s, .string ⟨#[]⟩, .bool false]) ∧ ∃ n, w' = w.drewN n := by
  have hx := ix_miss h
  have C := Lib.hid (fun w : World => (index_any s w).mono fun e w' hh => by rw [hx] at hh; exact hh)
  clear hx h
  go_enter Try.func27, Try.ntmps27
  go_wp2_with fail
  refine (C.out _).mono ?_
  rintro e w1 ⟨rfl, rfl⟩
  go_wp2
  go_ret3
  exact ⟨rfl, 0, rfl⟩

theorem cut_hit (s : ByteArray) (hs : s.size ≤ maxLen) (h : atP s < s.size) (w : World) :
    Calls Try.prog 25 #[.string s, .string ⟨#[64]⟩] w fun e w' => e = .returned (.tuple #[.string (s.extract 0 (atP s)), .string (s.extract (atP s + 1) s.size), .bool true]) ∧ ∃ n, w' = w.drewN n := by
  have C := Lib.hid (fun w : World => cut1_hit s hs h w)
  clear h
  generalize atP s = k at C ⊢
  go_enter Try.func25, Try.ntmps25
  go_wp2_with fail
  refine (C.out _).mono ?_
  rintro e w1 ⟨rfl, n, rfl⟩
  go_wp2
  go_ret3
  exact ⟨rfl, _, rfl⟩

theorem cut_miss (s : ByteArray) (h : ¬ atP s < s.size) (w : World) :
    Calls Try.prog 25 #[.string s, .string ⟨#[64]⟩] w fun e w' => e = .returned (.tuple #[.string s, .string ⟨#[]⟩, .bool false]) ∧ ∃ n, w' = w.drewN n := by
  have C := Lib.hid (fun w : World => cut1_miss s h w)
  clear h
  go_enter Try.func25, Try.ntmps25
  go_wp2_with fail
  refine (C.out _).mono ?_
  rintro e w1 ⟨rfl, n, rfl⟩
  go_wp2
  go_ret3
  exact ⟨rfl, _, rfl⟩

/-- Does it begin with the sign @? -/
def at0 (v : ByteArray) : Bool := v.data.toList.head? == some 64

theorem at0_lt {v : ByteArray} (h : at0 v = true) : 1 ≤ v.size := by
  unfold at0 at h
  have e : v.size = v.data.toList.length := by simp
  cases hl : v.data.toList with
  | nil => rw [hl] at h; simp at h
  | cons b l => rw [hl] at e; rw [e]; simp
theorem at0_ext (v : ByteArray) (h1 : 1 ≤ v.size) : ((v.extract 0 1).toList == [64]) = at0 v := by
  rw [Lib.extract_toList]
  unfold at0
  have e : v.size = v.data.toList.length := by simp
  cases hl : v.data.toList with
  | nil => rw [hl] at e; rw [e] at h1; simp at h1
  | cons b l => simp
theorem at0_get (v : ByteArray) (h1 : 0 < v.size) : (((v[0]'h1).toNat : Int) == 64) = at0 v := by
  unfold at0
  have e : v.size = v.data.toList.length := by simp
  have e2 : v.data.toList.head? = some (v[0]'h1) := by
    rw [List.head?_eq_getElem?, List.getElem?_eq_getElem (by omega)]
    rfl
  rw [e2, Bool.eq_iff_iff]
  simp only [beq_iff_eq, Option.some.injEq]
  constructor
  · intro h
    apply UInt8.toNat_inj.1
    have h2 : (v[0]'h1).toNat = 64 := by omega
    exact h2
  · intro h
    rw [h]
    rfl

set_option maxHeartbeats 400000 in
theorem hasPrefix_any (v : ByteArray) (w : World) :
    Calls Try.prog 30 #[.string v, .string ⟨#[64]⟩] w fun e w' => e = .returned (.bool (at0 v)) ∧ w = w' := by
  by_cases h1 : (1 : Int) ≤ (v.size : Int)
  · have h2 := at0_ext v (by omega)
    have HN := Lib.hid h2.symm
    cases h3 : ((v.extract 0 1).toList == [64])
    · clear h2
      rw [h3] at HN
      go_enter Try.func30, Try.ntmps30
      go_wp2
      go_ret
      exact ⟨by rw [HN.out]; rfl, rfl⟩
    · clear h2
      rw [h3] at HN
      go_enter Try.func30, Try.ntmps30
      go_wp2
      go_ret
      exact ⟨by rw [HN.out]; rfl, rfl⟩
  · have hn : at0 v = false := by
      cases h : at0 v
      · rfl
      · have := at0_lt h; omega
    have HN := Lib.hid hn; clear hn
    go_enter Try.func30, Try.ntmps30
    go_wp2
    go_ret
    exact ⟨by rw [HN.out]; rfl, rfl⟩

theorem cutPrefix1_hit (v : ByteArray) (hs : v.size ≤ maxLen) (h : at0 v = true) (w : World) :
    Calls Try.prog 28 #[.string v, .string ⟨#[64]⟩] w fun e w' => e = .returned (.tuple #[.string (v.extract 1 v.size), .bool true]) ∧ w = w' := by
  have h1 := at0_lt h
  have C := Lib.hid (fun w : World => (hasPrefix_any v w).mono fun e w' hh => by rw [h] at hh; exact hh)
  clear h
  unfold maxLen at hs
  go_enter Try.func28, Try.ntmps28
  go_wp2_with fail
  refine (C.out _).mono ?_
  rintro e w1 ⟨rfl, rfl⟩
  go_wp2
  go_ret2
  exact ⟨rfl, rfl⟩
theorem cutPrefix1_miss (v : ByteArray) (h : at0 v = false) (w : World) :
    Calls Try.prog 28 #[.string v, .string ⟨#[64]⟩] w fun e w' => e = .returned (.tuple #[.string v, .bool false]) ∧ w = w' := by
  have C := Lib.hid (fun w : World => (hasPrefix_any v w).mono fun e w' hh => by rw [h] at hh; exact hh)
  clear h
  go_enter Try.func28, Try.ntmps28
  go_wp2_with fail
  refine (C.out _).mono ?_
  rintro e w1 ⟨rfl, rfl⟩
  go_wp2
  go_ret2
  exact ⟨rfl, rfl⟩
theorem cutPrefix_hit (v : ByteArray) (hs : v.size ≤ maxLen) (h : at0 v = true) (w : World) :
    Calls Try.prog 26 #[.string v, .string ⟨#[64]⟩] w fun e w' => e = .returned (.tuple #[.string (v.extract 1 v.size), .bool true]) ∧ w = w' := by
  have C := Lib.hid (fun w : World => cutPrefix1_hit v hs h w)
  clear h
  go_enter Try.func26, Try.ntmps26
  go_wp2_with fail
  refine (C.out _).mono ?_
  rintro e w1 ⟨rfl, rfl⟩
  go_wp2
  go_ret2
  exact ⟨rfl, rfl⟩
theorem cutPrefix_miss (v : ByteArray) (h : at0 v = false) (w : World) :
    Calls Try.prog 26 #[.string v, .string ⟨#[64]⟩] w fun e w' => e = .returned (.tuple #[.string v, .bool false]) ∧ w = w' := by
  have C := Lib.hid (fun w : World => cutPrefix1_miss v h w)
  clear h
  go_enter Try.func26, Try.ntmps26
  go_wp2_with fail
  refine (C.out _).mono ?_
  rintro e w1 ⟨rfl, rfl⟩
  go_wp2
  go_ret2
  exact ⟨rfl, rfl⟩
end Go.Proofs.Ythajdklmklaelaa
