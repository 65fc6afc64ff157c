/-
  Layer 7, the plain law, no Go in sight: a right symbol comes back from its text; what is read is written as it stood.
  Conditions: none. (My own text.)
-/
import Derived.Test.YthajdklmklaelaaSyt
namespace Go.Proofs.Ythajdklmklaelaa
open Go.RowKit
set_option linter.unusedVariables false
set_option linter.unusedSimpArgs false

theorem ba_ext {a b : ByteArray} (h : a.data.toList = b.data.toList) : a = b := by
  rw [← Lib.mk_data a, ← Lib.mk_data b, h]
theorem ba_append (a b : ByteArray) : (a ++ b).data.toList = a.data.toList ++ b.data.toList := by
  rw [ByteArray.data_append, Array.toList_append]
theorem ba_size (a : ByteArray) : a.data.toList.length = a.size := by simp
theorem ba_empty {v : ByteArray} (h : v.toList.isEmpty = true) : v = ⟨#[]⟩ := by
  rw [Lib.toList_data] at h
  exact ba_ext (by simpa using h)
theorem ok_at : okB 64 = false := by decide

theorem name_noat {n : ByteArray} (h : nameS n = true) : ∀ b ∈ n.data.toList, (b == 64) = false := by
  intro b hb
  unfold nameS at h
  simp only [Bool.and_eq_true] at h
  have h1 := List.all_eq_true.1 h.1.1 b hb
  cases hc : (b == 64)
  · rfl
  · rw [beq_iff_eq] at hc
    rw [hc, ok_at] at h1
    cases h1
theorem name_size {n : ByteArray} (h : nameS n = true) : 1 ≤ n.size := by
  unfold nameS at h
  simp only [Bool.and_eq_true, decide_eq_true_eq] at h
  exact h.1.2
theorem atP_none {n : ByteArray} (h : nameS n = true) : atP n = n.size := by
  unfold atP
  rw [← ba_size, List.findIdx_eq_length]
  exact name_noat h
theorem atP_sign {n v : ByteArray} (h : nameS n = true) : atP (n ++ ⟨#[64]⟩ ++ v) = n.size := by
  unfold atP
  rw [ba_append, ba_append, List.append_assoc, List.findIdx_append, List.findIdx_eq_length.2 (name_noat h), if_neg (Nat.lt_irrefl _), ba_size]
  simp [List.findIdx_cons]
theorem at0_name {v : ByteArray} (h : nameS v = true) : at0 v = false := by
  unfold at0
  cases hl : v.data.toList with
  | nil => rfl
  | cons b l =>
    have := name_noat h b (by rw [hl]; simp)
    simpa using this
theorem cut_left (n v : ByteArray) : (n ++ ⟨#[64]⟩ ++ v).extract 0 n.size = n := by
  apply ba_ext
  rw [Lib.extract_data, ba_append, ba_append, List.append_assoc, List.drop_zero, Nat.sub_zero, ← ba_size]
  exact List.take_left
theorem cut_right (n v : ByteArray) : (n ++ ⟨#[64]⟩ ++ v).extract (n.size + 1) (n ++ ⟨#[64]⟩ ++ v).size = v := by
  apply ba_ext
  rw [Lib.extract_data, ← ba_size (n ++ ⟨#[64]⟩ ++ v), ba_append, ba_append]
  have e : (n.data.toList ++ (⟨#[64]⟩ : ByteArray).data.toList).length = n.size + 1 := by simp
  rw [← e, List.drop_left]
  exact List.take_of_length_le (by simp; omega)
theorem sign_lt (n v : ByteArray) : n.size < (n ++ ⟨#[64]⟩ ++ v).size := by
  rw [← ba_size (n ++ ⟨#[64]⟩ ++ v), ba_append, ba_append]
  simp

theorem back_right (n v : ByteArray) (o d : Bool) (k i a s : Int) (h : rightS n v o d k i a s = true) : parseS (printS n v o d) d = some (n, v, o) := by
  unfold rightS rightB at h
  simp only [Bool.and_eq_true, Bool.or_eq_true] at h
  obtain ⟨⟨⟨⟨⟨⟨⟨⟨⟨bn, bv⟩, _⟩, _⟩, _⟩, _⟩, _⟩, _⟩, hd⟩, hoe⟩ := h
  cases he : v.toList.isEmpty
  · rw [he] at bv
    have bv' : nameS v = true := by simpa using bv
    have one : parseS (n ++ ⟨#[64]⟩ ++ v) d = some (n, v, d) := by
      unfold parseS
      rw [atP_sign bn, if_pos (sign_lt n v), cut_left, cut_right, if_neg (by rw [at0_name bv']; exact Bool.false_ne_true), if_pos ⟨bn, bv'⟩]
    unfold printS
    rw [if_neg (by rw [he]; exact Bool.false_ne_true)]
    cases d
    · have ho : o = false := by cases o <;> simp_all
      subst ho
      simpa using one
    · cases o
      · simp only [Bool.not_false, Bool.and_self, if_true]
        rw [← add_at, ByteArray.append_assoc]
        unfold parseS
        have e1 : at0 (⟨#[64]⟩ ++ v) = true := by unfold at0; rw [ba_append]; rfl
        have e2 : (⟨#[64]⟩ ++ v : ByteArray).extract 1 (⟨#[64]⟩ ++ v : ByteArray).size = v := by
          apply ba_ext
          rw [Lib.extract_data, ← ba_size (⟨#[64]⟩ ++ v), ba_append]
          simp
          try exact List.take_of_length_le (by simp)
        rw [atP_sign bn, if_pos (sign_lt n _), cut_left, cut_right, if_pos e1, if_pos rfl, e2, if_pos ⟨bn, bv'⟩]
      · simpa using one
  · have hv := ba_empty he
    have ho : o = false := by cases o <;> simp_all
    subst ho
    unfold printS
    rw [if_pos he]
    unfold parseS
    rw [atP_none bn, if_neg (Nat.lt_irrefl _), if_pos bn, hv]

/-- A text is what stands ahead of the first sign @, that, and what stands behind it. -/
theorem at_split (s : ByteArray) (h : atP s < s.size) : s.extract 0 (atP s) ++ ⟨#[64]⟩ ++ s.extract (atP s + 1) s.size = s := by
  apply ba_ext
  have hl : atP s < s.data.toList.length := by rw [ba_size]; exact h
  have hb : s.data.toList[atP s] = 64 := by
    have := List.findIdx_getElem (p := fun b : UInt8 => b == 64) (xs := s.data.toList) (w := hl)
    exact beq_iff_eq.1 this
  have e : (s.data.toList.drop (atP s + 1)).take (s.size - (atP s + 1)) = s.data.toList.drop (atP s + 1) := List.take_of_length_le (by simp)
  rw [ba_append, ba_append, Lib.extract_data, Lib.extract_data, List.drop_zero, Nat.sub_zero, e, List.append_assoc]
  show s.data.toList.take (atP s) ++ (64 :: s.data.toList.drop (atP s + 1)) = _
  rw [← hb, ← List.drop_eq_getElem_cons hl, List.take_append_drop]
theorem at0_split (v : ByteArray) (h : at0 v = true) : ⟨#[64]⟩ ++ v.extract 1 v.size = v := by
  apply ba_ext
  unfold at0 at h
  rw [ba_append, Lib.extract_data, List.take_of_length_le (by simp)]
  cases hl : v.data.toList with
  | nil => rw [hl] at h; simp at h
  | cons b l =>
    rw [hl] at h
    have hb : b = 64 := by simpa using h
    rw [hb]
    rfl
theorem not_empty {v : ByteArray} (h : nameS v = true) : v.toList.isEmpty = false := isEmpty_no v (name_size h)

theorem form_back (s n v : ByteArray) (o d : Bool) (h : parseS s d = some (n, v, o)) : printS n v o d = s ∧ nameS n = true ∧ (v.toList.isEmpty = true ∨ nameS v = true) := by
  unfold parseS at h
  by_cases hp : atP s < s.size
  · rw [if_pos hp] at h
    by_cases h0 : at0 (s.extract (atP s + 1) s.size) = true
    · rw [if_pos h0] at h
      cases d
      · simp at h
      · rw [if_pos rfl] at h
        split at h
        · rename_i hn
          simp only [Option.some.injEq, Prod.mk.injEq] at h
          obtain ⟨rfl, rfl, rfl⟩ := h
          refine ⟨?_, hn.1, .inr hn.2⟩
          unfold printS
          rw [not_empty hn.2]
          simp only [Bool.false_eq_true, if_false, Bool.not_false, Bool.and_self, if_true]
          rw [← add_at, ByteArray.append_assoc, at0_split _ h0, at_split s hp]
        · cases h
    · rw [if_neg h0] at h
      split at h
      · rename_i hn
        simp only [Option.some.injEq, Prod.mk.injEq] at h
        obtain ⟨rfl, rfl, rfl⟩ := h
        refine ⟨?_, hn.1, .inr hn.2⟩
        unfold printS
        rw [not_empty hn.2]
        have e : (d && !d) = false := by cases d <;> rfl
        simp only [Bool.false_eq_true, if_false, e]
        exact at_split s hp
      · cases h
  · rw [if_neg hp] at h
    split at h
    · rename_i hn
      simp only [Option.some.injEq, Prod.mk.injEq] at h
      obtain ⟨rfl, rfl, rfl⟩ := h
      refine ⟨?_, hn, .inl (isEmpty_yes _ rfl)⟩
      unfold printS
      rw [if_pos (isEmpty_yes _ rfl)]
    · cases h
theorem parse_sizes (s n v : ByteArray) (o d : Bool) (h : parseS s d = some (n, v, o)) : n.size ≤ s.size ∧ v.size ≤ s.size := by
  unfold parseS at h
  split at h
  · split at h
    · split at h
      · split at h
        · simp only [Option.some.injEq, Prod.mk.injEq] at h
          obtain ⟨rfl, rfl, rfl⟩ := h
          simp only [ByteArray.size_extract]
          omega
        · cases h
      · cases h
    · split at h
      · simp only [Option.some.injEq, Prod.mk.injEq] at h
        obtain ⟨rfl, rfl, rfl⟩ := h
        simp only [ByteArray.size_extract]
        omega
      · cases h
  · split at h
    · simp only [Option.some.injEq, Prod.mk.injEq] at h
      obtain ⟨rfl, rfl, rfl⟩ := h
      exact ⟨Nat.le_refl _, Nat.zero_le _⟩
    · cases h
end Go.Proofs.Ythajdklmklaelaa
