/-
  Layer 5, plain: which region an address is of; what is written is read; gaps; what is refused.
  Layer 5, plain: what is mapped holds noughts, and goes again.
  Layer 5: SpaceWords: the plain law.
  Conditions: none. (My own text.)
-/
import Derived.Test.YtpenejigebkkmaaGreatSp5
import Derived.Test.YtpenejigebkkmaaGreatSp4
namespace Go.Proofs.YtpenejigebkkmaaGreat
open Go.RowKit Spm
set_option linter.unusedVariables false
set_option linter.unusedSimpArgs false

theorem inside_of {x : Int} {r : Rg} (h1 : r.at_ ≤ x) (h2 : x < r.at_ + r.sz) : inside x r = true := by unfold inside; simp; omega

theorem ok_unique {L : List Rg} (h : Ok L) {i j : Nat} {r s : Rg} {x : Int} (hi : L[i]? = some r) (hj : L[j]? = some s) (h1 : inside x r = true) (h2 : inside x s = true) : i = j := by
  obtain ⟨a1, a2⟩ := inside_iff h1
  obtain ⟨b1, b2⟩ := inside_iff h2
  rcases Nat.lt_trichotomy i j with hl | hl | hl
  · have := pw_get h.srt hi hj hl; unfold Apart at this; omega
  · exact hl
  · have := pw_get h.srt hj hi hl; unfold Apart at this; omega

theorem partK_eq {L : List Rg} (h : Ok L) {i : Nat} {r : Rg} {x : Int} (hi : L[i]? = some r) (h1 : inside x r = true) : partK L x = i := by
  obtain ⟨hl, he⟩ := List.getElem?_eq_some_iff.1 hi
  have hlt : partK L x < L.length := List.findIdx_lt_length_of_exists ⟨r, List.mem_of_getElem? hi, h1⟩
  have := List.findIdx_getElem (p := inside x) (xs := L) (w := hlt)
  exact ok_unique h (List.getElem?_eq_getElem hlt) hi this h1

theorem findS_eq {L : List Rg} (h : Ok L) {i : Nat} {r : Rg} {x : Int} (hi : L[i]? = some r) (h1 : r.at_ = x) : findS L x = i := by
  obtain ⟨hl, he⟩ := List.getElem?_eq_some_iff.1 hi
  have hlt : findS L x < L.length := List.findIdx_lt_length_of_exists ⟨r, List.mem_of_getElem? hi, by simpa using h1⟩
  have h2 := List.findIdx_getElem (p := fun r : Rg => r.at_ == x) (xs := L) (w := hlt)
  have h3 : (L[findS L x]).at_ = x := beq_iff_eq.1 h2
  have hs1 := (h.each _ (List.getElem_mem hlt)).slo
  have hs2 := (h.each r (List.mem_of_getElem? hi)).slo
  refine ok_unique h (x := x) (List.getElem?_eq_getElem hlt) hi (inside_of (by omega) (by omega)) (inside_of (by omega) (by omega))

/-! A change of what stands in a region, or of what it is for, leaves the places. -/
theorem findIdx_modify (p : Rg → Bool) (f : Rg → Rg) (h : ∀ r, p (f r) = p r) : ∀ (L : List Rg) (k : Nat), (L.modify k f).findIdx p = L.findIdx p
  | [], k => by simp
  | r :: L, 0 => by simp [List.findIdx_cons, h]
  | r :: L, k + 1 => by simp [List.findIdx_cons, findIdx_modify p f h L k]
theorem partK_modify (f : Rg → Rg) (h1 : ∀ r, (f r).at_ = r.at_) (h2 : ∀ r, (f r).sz = r.sz) (L : List Rg) (k : Nat) (x : Int) : partK (L.modify k f) x = partK L x :=
  findIdx_modify _ f (fun r => by unfold inside; rw [h1, h2]) L k
theorem findS_modify (f : Rg → Rg) (h1 : ∀ r, (f r).at_ = r.at_) (L : List Rg) (k : Nat) (x : Int) : findS (L.modify k f) x = findS L x :=
  findIdx_modify _ f (fun r => by simp only [h1]) L k
theorem partS_modify (f : Rg → Rg) (h1 : ∀ r, (f r).at_ = r.at_) (h2 : ∀ r, (f r).sz = r.sz) (h3 : ∀ r, (f r).pm = r.pm) (L : List Rg) (k : Nat) (x : Int) (n : Nat) (p : Int) : partS (L.modify k f) x n p = partS L x n p := by
  unfold partS
  rw [partK_modify f h1 h2]
  rw [List.getElem?_modify]
  cases L[partK L x]? with
  | none => simp
  | some r => by_cases hk : k = partK L x <;> simp [hk, h1, h2, h3]

theorem over_get (l b : List UInt8) (o : Nat) (h : o + b.length ≤ l.length) : ((over l o b).drop o).take b.length = b := by
  unfold over
  rw [List.append_assoc, List.drop_append, List.length_take, Nat.min_eq_left (by omega), Nat.sub_self, List.drop_zero, List.drop_of_length_le (by simp; omega), List.nil_append, List.take_append, List.take_of_length_le (Nat.le_refl _)]
  simp
theorem over_get_other (l b : List UInt8) (o i : Nat) (h : o + b.length ≤ l.length) (hi : i < o ∨ o + b.length ≤ i) : (over l o b)[i]? = l[i]? := by
  unfold over
  rw [List.append_assoc]
  rcases hi with hi | hi
  · rw [List.getElem?_append_left (by simp; omega), List.getElem?_take_of_lt hi]
  · rw [List.getElem?_append_right (by simp; omega), List.getElem?_append_right (by simp; omega), List.getElem?_drop]
    congr 1
    simp
    omega
theorem take1 (l : List UInt8) (i : Nat) : (l.drop i).take 1 = l[i]?.toList := by
  cases h : l[i]? with
  | none => rw [List.drop_of_length_le (by simpa using h)]; rfl
  | some x =>
    obtain ⟨hi, he⟩ := List.getElem?_eq_some_iff.1 h
    rw [List.drop_eq_getElem_cons hi, he]; rfl

/-- Written, and read. -/
theorem set_get {L : List Rg} (h : Ok L) {x : Int} {b : List UInt8} (hs : (setS L x b 0).2 = 0) : getS (setS L x b 0).1 x b.length 0 = (b, 0) := by
  unfold setS at hs ⊢
  split at hs
  · simp at hs
  · rename_i hn
    split at hs
    · rename_i hp; simp only at hs; omega
    · rename_i hp
      rw [if_neg hn, if_neg hp]
      have hp' : partS L x b.length 0 = 0 := by simpa using hp
      obtain ⟨r, hr, hrn, _, hin⟩ := partS_ok hp'
      obtain ⟨i1, i2⟩ := inside_iff hin
      have hlen := (h.each r (List.mem_of_getElem? hr)).len
      rw [getS_ok (r := { r with bs := over r.bs (x - r.at_).toNat b }) (by omega) (by omega)]
      · show (((over r.bs (x - r.at_).toNat b).drop (x - r.at_).toNat).take b.length, (0 : Int)) = (b, 0)
        rw [over_get _ _ _ (by omega)]
      · rw [partS_modify (fun r => { r with bs := over r.bs (x - r.at_).toNat b }) (fun _ => rfl) (fun _ => rfl) (fun _ => rfl)]; exact hp'
      · rw [partK_modify (fun r => { r with bs := over r.bs (x - r.at_).toNat b }) (fun _ => rfl) (fun _ => rfl), List.getElem?_modify, hr]; simp

theorem get_err (L : List Rg) (x n p : Int) : (getS L x n p).2 = if n < 1 ∨ 1048576 < n then 1 else partS L x n.toNat p := by
  unfold getS
  split
  · rfl
  · split
    · rfl
    · rename_i hp
      have hp' : partS L x n.toNat p = 0 := by simpa using hp
      obtain ⟨r, hr, _⟩ := partS_ok hp'
      rw [hr, hp']

theorem get_err_set (L : List Rg) (x y n p q : Int) (b : List UInt8) : (getS (setS L x b q).1 y n p).2 = (getS L y n p).2 := by
  rw [get_err, get_err]
  unfold setS
  by_cases h1 : b.length < 1 ∨ 1048576 < b.length
  · rw [if_pos h1]
  · rw [if_neg h1]
    by_cases h2 : partS L x b.length q ≠ 0
    · rw [if_pos h2]
    · rw [if_neg h2]
      rw [partS_modify (fun r => { r with bs := over r.bs (x - r.at_).toNat b }) (fun _ => rfl) (fun _ => rfl) (fun _ => rfl)]

/-- What stands elsewhere stays. -/
theorem set_other {L : List Rg} (h : Ok L) {x y : Int} {b : List UInt8} (hs : (setS L x b 0).2 = 0) (hy : (getS L y 1 0).2 = 0) (hd : y < x ∨ x + b.length ≤ y) : (getS (setS L x b 0).1 y 1 0).1 = (getS L y 1 0).1 := by
  have hy' : partS L y 1 0 = 0 := by rw [get_err] at hy; simpa using hy
  unfold setS at hs ⊢
  split at hs
  · simp at hs
  · rename_i hn
    split at hs
    · rename_i hp; simp only at hs; omega
    · rename_i hp
      rw [if_neg hn, if_neg hp]
      have hp' : partS L x b.length 0 = 0 := by simpa using hp
      obtain ⟨r, hr, hrn, _, hin⟩ := partS_ok hp'
      obtain ⟨i1, i2⟩ := inside_iff hin
      obtain ⟨s, hs', hsn, _, hin'⟩ := partS_ok hy'
      obtain ⟨j1, j2⟩ := inside_iff hin'
      have hlen := (h.each r (List.mem_of_getElem? hr)).len
      have e1 : getS L y 1 0 = ((s.bs.drop (y - s.at_).toNat).take 1, 0) := getS_ok (n := 1) (by omega) (by omega) hy' hs'
      by_cases hk : partK L x = partK L y
      · have hrs : r = s := by rw [hk] at hr; rw [hr] at hs'; exact Option.some.inj hs'
        subst hrs
        have e2 := getS_ok (L := L.modify (partK L x) (fun r => { r with bs := over r.bs (x - r.at_).toNat b })) (at_ := y) (p := 0) (n := 1) (r := { r with bs := over r.bs (x - r.at_).toNat b }) (by omega) (by omega)
          (by rw [partS_modify (fun r => { r with bs := over r.bs (x - r.at_).toNat b }) (fun _ => rfl) (fun _ => rfl) (fun _ => rfl)]; exact hy')
          (by rw [partK_modify (fun r => { r with bs := over r.bs (x - r.at_).toNat b }) (fun _ => rfl) (fun _ => rfl), List.getElem?_modify, hs', hk]; simp)
        simp only at e2
        have e2' : getS (L.modify (partK L x) (fun r => { r with bs := over r.bs (x - r.at_).toNat b })) y 1 0 = _ := e2
        rw [e2', e1]
        simp only
        rw [take1, take1, over_get_other _ _ _ _ (by omega) (by omega)]
      · have e2 := getS_ok (L := L.modify (partK L x) (fun r => { r with bs := over r.bs (x - r.at_).toNat b })) (at_ := y) (p := 0) (n := 1) (r := s) (by omega) (by omega)
          (by rw [partS_modify (fun r => { r with bs := over r.bs (x - r.at_).toNat b }) (fun _ => rfl) (fun _ => rfl) (fun _ => rfl)]; exact hy')
          (by rw [partK_modify (fun r => { r with bs := over r.bs (x - r.at_).toNat b }) (fun _ => rfl) (fun _ => rfl), List.getElem?_modify, hs']; simp [hk])
        have e2' : getS (L.modify (partK L x) (fun r => { r with bs := over r.bs (x - r.at_).toNat b })) y 1 0 = _ := e2
        rw [e2', e1]

/-- What is refused has changed nothing. -/
theorem mapAt_refused {L : List Rg} {x n p : Int} (h : (mapAtS L x n p).2 ≠ 0) : (mapAtS L x n p).1 = L := by
  unfold mapAtS at h ⊢
  split
  · rfl
  · split
    · rfl
    · split
      · rfl
      · rename_i h1 h2 h3
        rw [if_neg h1, if_neg h2, if_neg h3] at h
        exact absurd rfl h
theorem set_refused {L : List Rg} {x p : Int} {b : List UInt8} (h : (setS L x b p).2 ≠ 0) : (setS L x b p).1 = L := by
  unfold setS at h ⊢
  split
  · rfl
  · split
    · rfl
    · rename_i h1 h2
      rw [if_neg h1, if_neg h2] at h
      exact absurd rfl h
theorem map_refused {L : List Rg} {n p : Int} (h : (mapS L n p).2.2 ≠ 0) : (mapS L n p).1 = L := by
  unfold mapS at h ⊢
  split
  · rfl
  · split
    · rfl
    · rename_i h1 h2
      rw [if_neg h1, if_neg h2] at h
      exact mapAt_refused h
theorem does_refused {L : List Rg} {x : Act} (h : (doesS L x).2.2 ≠ 0) : (doesS L x).1 = L := by
  unfold doesS at h ⊢
  split
  · rename_i h1; rw [if_pos h1] at h; exact map_refused h
  rename_i h1; rw [if_neg h1] at h
  split
  · rename_i h1; rw [if_pos h1] at h; exact mapAt_refused h
  rename_i h1; rw [if_neg h1] at h
  split
  · rename_i h1; rw [if_pos h1] at h
    unfold unmapS at h ⊢
    split
    · rename_i h2; rw [if_pos h2] at h; simp at h
    · rfl
  rename_i h1; rw [if_neg h1] at h
  split
  · rename_i h1; rw [if_pos h1] at h
    unfold protectS at h ⊢
    split
    · rfl
    · rename_i h2; rw [if_neg h2] at h
      split
      · rename_i h3; rw [if_pos h3] at h; simp at h
      · rfl
  rename_i h1; rw [if_neg h1] at h
  split
  · rename_i h1; rw [if_pos h1] at h; exact set_refused h
  rename_i h1; rw [if_neg h1] at h
  split
  · rename_i h1; rw [if_pos h1] at h; exact set_refused h
  rename_i h1; rw [if_neg h1] at h
  split
  · rename_i h1; rw [if_pos h1] at h; exact set_refused h
  rename_i h1; rw [if_neg h1] at h
  split
  · rename_i h1; rw [if_pos h1] at h; exact set_refused h
  rename_i h1
  rfl

/-- Where a new one would meet one that is there. -/
theorem meets_iff {L : List Rg} (h : Ok L) {x n : Int} (hn : 0 < n) : meets L x n = true ↔ ∃ r ∈ L, x < r.at_ + r.sz ∧ r.at_ < x + n := by
  unfold meets
  rw [Bool.or_eq_true, Bool.and_eq_true, Bool.and_eq_true, decide_eq_true_iff, decide_eq_true_iff, decide_eq_true_iff, decide_eq_true_iff]
  constructor
  · rintro (⟨h1, h2⟩ | ⟨h1, h2⟩)
    · obtain ⟨j, hj⟩ : ∃ j, insP x L = j + 1 := ⟨insP x L - 1, by omega⟩
      have hle := insP_le x L
      obtain ⟨y, hy⟩ : ∃ y, L[j]? = some y := ⟨L[j]'(by omega), List.getElem?_eq_getElem (by omega)⟩
      rw [hj, Nat.add_sub_cancel, List.getD_eq_getElem?_getD, hy] at h2
      simp only [Option.getD_some] at h2
      have hb := insP_before x L j y hy (by omega)
      exact ⟨y, List.mem_of_getElem? hy, h2, by omega⟩
    · obtain ⟨y, hy⟩ : ∃ y, L[insP x L]? = some y := ⟨L[insP x L], List.getElem?_eq_getElem h1⟩
      rw [List.getD_eq_getElem?_getD, hy] at h2
      simp only [Option.getD_some] at h2
      have hb := insP_stop x L y hy
      have hs := (h.each y (List.mem_of_getElem? hy)).slo
      exact ⟨y, List.mem_of_getElem? hy, by omega, h2⟩
  · rintro ⟨r, hr, h1, h2⟩
    obtain ⟨i, hi⟩ := List.mem_iff_getElem?.1 hr
    have hil := (List.getElem?_eq_some_iff.1 hi).1
    rcases Nat.lt_or_ge i (insP x L) with hc | hc
    · left
      obtain ⟨j, hj⟩ : ∃ j, insP x L = j + 1 := ⟨insP x L - 1, by omega⟩
      have hle := insP_le x L
      obtain ⟨y, hy⟩ : ∃ y, L[j]? = some y := ⟨L[j]'(by omega), List.getElem?_eq_getElem (by omega)⟩
      refine ⟨by omega, ?_⟩
      rw [hj, Nat.add_sub_cancel, List.getD_eq_getElem?_getD, hy]
      simp only [Option.getD_some]
      rcases Nat.lt_or_ge i j with h3 | h3
      · have := pw_get h.srt hi hy h3
        have hs := (h.each y (List.mem_of_getElem? hy)).slo
        unfold Apart at this; omega
      · have : i = j := by omega
        subst this
        rw [hy] at hi; cases hi; exact h1
    · right
      obtain ⟨y, hy⟩ : ∃ y, L[insP x L]? = some y := ⟨L[insP x L]'(by omega), List.getElem?_eq_getElem (by omega)⟩
      refine ⟨by omega, ?_⟩
      rw [List.getD_eq_getElem?_getD, hy]
      simp only [Option.getD_some]
      rcases Nat.lt_or_ge (insP x L) i with h3 | h3
      · have := pw_get h.srt hy hi h3
        have hs := (h.each y (List.mem_of_getElem? hy)).slo
        unfold Apart at this; omega
      · have : i = insP x L := by omega
        subst this
        rw [hy] at hi; cases hi; exact h2

/-- A gap, if there is one. -/
theorem gap_ok {L : List Rg} (h : Ok L) {n : Int} (he : (gapS L n).2 = 0) : 1 ≤ n ∧ n ≤ 1048576 ∧ 4096 ≤ (gapS L n).1 ∧ (gapS L n).1 % 64 = 0 ∧ (gapS L n).1 + up n ≤ 4294967296 ∧ meets L (gapS L n).1 (up n) = false ∧
    ∀ x, 4096 ≤ x → x < (gapS L n).1 → meets L x (up n) = true := by
  unfold gapS at he ⊢
  split at he
  · simp at he
  · rename_i h1
    split at he
    · simp at he
    · rename_i h2
      rw [if_neg h1, if_neg h2]
      simp only
      obtain ⟨u1, u2, u3, u4⟩ := up_ge n (by omega)
      have hb := gapGo_bound (up n) L 4096 h.each (by omega)
      refine ⟨by omega, by omega, hb.1, gapGo_al (up n) L 4096 h.each (by omega), by omega, ?_, fun x hx1 hx2 => ?_⟩
      · cases hm : meets L (gapGo (up n) L 4096) (up n)
        · rfl
        · obtain ⟨r, hr, h3, h4⟩ := (meets_iff h (by omega)).1 hm
          rcases gapGo_free (up n) (by omega) L 4096 h.each h.srt r hr with h5 | h5 <;> omega
      · exact (meets_iff h (by omega)).2 (by
          obtain ⟨r, hr, h3, h4⟩ := gapGo_least (up n) L 4096 x hx1 hx2
          exact ⟨r, hr, h3, h4⟩)
theorem gap_err {L : List Rg} {n : Int} (he : (gapS L n).2 ≠ 0) : (gapS L n).1 = 0 ∧ ((gapS L n).2 = 1 ∨ (gapS L n).2 = 3) := by
  unfold gapS at he ⊢
  split
  · exact ⟨rfl, .inl rfl⟩
  · rename_i h1
    rw [if_neg h1] at he
    split
    · exact ⟨rfl, .inr rfl⟩
    · rename_i h2
      rw [if_neg h2] at he
      simp at he
theorem gap_bad {L : List Rg} {n : Int} (he : n < 1 ∨ 1048576 < n) : gapS L n = (0, 1) := by unfold gapS; rw [if_pos he]

theorem up_up (n : Int) : up (up n) = up n := by unfold up; omega
theorem gap_up {L : List Rg} {n : Int} (h : 1 ≤ n ∧ n ≤ 1048576) : gapS L (up n) = gapS L n := by
  have h1 := up_ge n h.1
  have h2 := up_le n h.1 h.2
  unfold gapS
  rw [up_up, if_neg (show ¬ (up n < 1 ∨ 1048576 < up n) by omega), if_neg (show ¬ (n < 1 ∨ 1048576 < n) by omega)]

/-- Mapped at a gap. -/
theorem mapAt_gap {L : List Rg} (h : Ok L) {n p : Int} (he : (gapS L n).2 = 0) (hp : 0 ≤ p ∧ p ≤ 7) :
    mapAtS L (gapS L n).1 n p = (L.take (insP (gapS L n).1 L) ++ ⟨(gapS L n).1, up n, p, zeros (up n)⟩ :: L.drop (insP (gapS L n).1 L), 0) := by
  obtain ⟨g1, g2, g3, g4, g5, g6, _⟩ := gap_ok h he
  have hr : right n p = 0 := by unfold right; rw [if_neg (by omega)]
  exact mapAtS_ok hr (by unfold atBad; omega) g6
theorem map_gap {L : List Rg} (h : Ok L) {n p : Int} (he : (gapS L n).2 = 0) (hp : 0 ≤ p ∧ p ≤ 7) :
    mapS L n p = (L.take (insP (gapS L n).1 L) ++ ⟨(gapS L n).1, up n, p, zeros (up n)⟩ :: L.drop (insP (gapS L n).1 L), (gapS L n).1, 0) := by
  obtain ⟨g1, g2, _⟩ := gap_ok h he
  have hr : right n p = 0 := by unfold right; rw [if_neg (by omega)]
  unfold mapS
  rw [if_neg (by simp [hr]), if_neg (by simp [he]), mapAt_gap h he hp]
theorem map_full {L : List Rg} {n p : Int} (hp : 0 ≤ p ∧ p ≤ 7) (he : (gapS L n).2 ≠ 0) : mapS L n p = (L, 0, (gapS L n).2) := by
  unfold mapS
  by_cases hr : right n p = 0
  · rw [if_neg (by simp [hr]), if_pos he]
  · rw [if_pos hr]
    have : n < 1 ∨ 1048576 < n := by unfold right at hr; split at hr <;> simp_all <;> omega
    rw [gap_bad this]
theorem mapAt_less {L : List Rg} (h : Ok L) {n p x : Int} (he : (gapS L n).2 = 0) (hx : x < (gapS L n).1) : (mapAtS L x n p).2 ≠ 0 := by
  obtain ⟨g1, g2, g3, g4, g5, g6, g7⟩ := gap_ok h he
  by_cases hr : right n p = 0
  · by_cases hb : atBad x n
    · rw [mapAtS_b hr hb]; simp
    · rw [mapAtS_m hr hb (g7 x (by unfold atBad at hb; omega) hx)]; simp
  · rw [mapAtS_r hr]; simp
end Go.Proofs.YtpenejigebkkmaaGreat

namespace Go.Proofs.YtpenejigebkkmaaGreat
open Go.RowKit Spm
set_option linter.unusedVariables false
set_option linter.unusedSimpArgs false

theorem has_one (p : Int) : has p 1 = decide (p % 2 = 1) := by unfold has; simp
theorem map_err {L : List Rg} (h : Ok L) {n p : Int} (he : (mapS L n p).2.2 ≠ 0) : (mapS L n p).1 = L ∧ (mapS L n p).2.1 = 0 := by
  refine ⟨map_refused he, ?_⟩
  unfold mapS at he ⊢
  split
  · rfl
  · rename_i h1
    rw [if_neg h1] at he
    split
    · rfl
    · rename_i h2
      rw [if_neg h2] at he
      exfalso
      have h1' : right n p = 0 := by simpa using h1
      have h2' : (gapS L n).2 = 0 := by simpa using h2
      obtain ⟨z1, z2, z3, z4⟩ := right_eq h1'
      rw [mapAt_gap h h2' ⟨z3, z4⟩] at he
      exact he rfl

theorem ins_get {L : List Rg} {i : Nat} (hi : i ≤ L.length) (R : Rg) : (L.take i ++ R :: L.drop i)[i]? = some R := by
  rw [List.getElem?_append_right (by simp; omega)]
  simp [Nat.min_eq_left hi]
theorem ins_erase {L : List Rg} {i : Nat} (hi : i ≤ L.length) (R : Rg) : (L.take i ++ R :: L.drop i).eraseIdx i = L := by
  rw [List.eraseIdx_append_of_length_le (by simp; omega)]
  simp [Nat.min_eq_left hi]

/-- A region that was mapped. -/
structure Mapped (L : List Rg) (n p : Int) (L2 : List Rg) (g : Int) : Prop where
  n1 : 1 ≤ n
  n2 : n ≤ 1048576
  p0 : 0 ≤ p
  p7 : p ≤ 7
  g0 : 4096 ≤ g
  g1 : g + up n ≤ 4294967296
  ok : Ok L2
  len : L2.length = L.length + 1
  peek : getS L2 g n 0 = (List.replicate n.toNat 0, 0)
  read : (getS L2 g n 1).2 = if p % 2 = 1 then 0 else 52
  gone : unmapS L2 g = (L, 0)
  twice : unmapS L g = (L, 50)

theorem map_new {L : List Rg} (h : Ok L) {n p : Int} (he : (mapS L n p).2.2 = 0) : Mapped L n p (mapS L n p).1 (mapS L n p).2.1 := by
  have hok := h.map n p
  by_cases hr : right n p = 0
  · by_cases hg : (gapS L n).2 = 0
    · obtain ⟨z1, z2, z3, z4⟩ := right_eq hr
      obtain ⟨g1, g2, g3, g4, g5, g6, _⟩ := gap_ok h hg
      rw [map_gap h hg ⟨z3, z4⟩] at hok ⊢
      simp only at hok ⊢
      generalize hG : (gapS L n).1 = G at *
      have hi := insP_le G L
      generalize insP G L = i at *
      obtain ⟨u1, u2, u3, u4⟩ := up_ge n z1
      have hget := ins_get hi (⟨G, up n, p, zeros (up n)⟩ : Rg)
      have hin : inside G (⟨G, up n, p, zeros (up n)⟩ : Rg) = true := inside_of (Int.le_refl _) (by simp only; omega)
      have hK := partK_eq hok hget hin
      have hF := findS_eq (x := G) hok hget rfl
      have hz : ((zeros (up n)).drop (G - G).toNat).take n.toNat = List.replicate n.toNat 0 := by
        rw [Int.sub_self]
        unfold zeros
        simp
        omega
      have hps : ∀ q : Int, partS (L.take i ++ ⟨G, up n, p, zeros (up n)⟩ :: L.drop i) G n.toNat q = if has p q = false then 52 else 0 := fun q => by
        rw [partS_some (by rw [hK]; exact hget)]
        simp only
        rw [if_neg (by omega)]
      have hh0 : has p 0 = true := by unfold has; simp
      have hil : i < (L.take i ++ (⟨G, up n, p, zeros (up n)⟩ : Rg) :: L.drop i).length := by simp; omega
      refine ⟨z1, z2, z3, z4, g3, g5, hok, by simp; omega, ?_, ?_, ?_, ?_⟩
      · have e := getS_ok (L := L.take i ++ ⟨G, up n, p, zeros (up n)⟩ :: L.drop i) (at_ := G) (p := 0) (n := n.toNat) (by omega) (by omega) (by rw [hps, if_neg (by simp [hh0])]) (by rw [hK]; exact hget)
        rw [show ((n.toNat : Nat) : Int) = n by omega] at e
        rw [e]
        simp only
        rw [hz]
      · rw [get_err, if_neg (by omega), hps, has_one]
        by_cases hp : p % 2 = 1
        · simp [hp]
        · simp [hp]
      · unfold unmapS
        rw [hF, if_pos hil, ins_erase hi]
      · unfold unmapS
        rw [if_neg]
        intro hlt
        have h2 := List.findIdx_getElem (p := fun r : Rg => r.at_ == G) (xs := L) (w := hlt)
        have h3 : (L[findS L G]).at_ = G := beq_iff_eq.1 h2
        have hs1 := (h.each _ (List.getElem_mem hlt)).slo
        have : meets L G (up n) = true := (meets_iff h (by omega)).2 ⟨_, List.getElem_mem hlt, by omega, by omega⟩
        rw [g6] at this
        cases this
    · exfalso
      unfold mapS at he
      rw [if_neg (by simp [hr]), if_pos hg] at he
      exact hg he
  · exfalso
    unfold mapS at he
    rw [if_pos hr] at he
    simp at he
end Go.Proofs.YtpenejigebkkmaaGreat

namespace Go.Proofs.YtpenejigebkkmaaGreat
open Go.RowKit Spm
set_option linter.unusedVariables false
set_option linter.unusedSimpArgs false

theorem byteN_toNat (n : Int) (m : Nat) : (byteN n m).toNat = (n % 18446744073709551616).toNat / m % 256 := by
  unfold byteN
  simp
theorem leS_bytes (m : Nat) (hm : m < 18446744073709551616) : m / 1 % 256 + 256 * (m / 256 % 256 + 256 * (m / 65536 % 256 + 256 * (m / 16777216 % 256 + 256 * (m / 4294967296 % 256 + 256 * (m / 1099511627776 % 256 + 256 * (m / 281474976710656 % 256 + 256 * (m / 72057594037927936 % 256 + 256 * 0))))))) = m := by
  have e2 : m / 65536 = m / 256 / 256 := by rw [Nat.div_div_eq_div_mul]
  have e3 : m / 16777216 = m / 256 / 256 / 256 := by rw [Nat.div_div_eq_div_mul, Nat.div_div_eq_div_mul]
  have e4 : m / 4294967296 = m / 256 / 256 / 256 / 256 := by rw [Nat.div_div_eq_div_mul, Nat.div_div_eq_div_mul, Nat.div_div_eq_div_mul]
  have e5 : m / 1099511627776 = m / 256 / 256 / 256 / 256 / 256 := by rw [Nat.div_div_eq_div_mul, Nat.div_div_eq_div_mul, Nat.div_div_eq_div_mul, Nat.div_div_eq_div_mul]
  have e6 : m / 281474976710656 = m / 256 / 256 / 256 / 256 / 256 / 256 := by rw [Nat.div_div_eq_div_mul, Nat.div_div_eq_div_mul, Nat.div_div_eq_div_mul, Nat.div_div_eq_div_mul, Nat.div_div_eq_div_mul]
  have e7 : m / 72057594037927936 = m / 256 / 256 / 256 / 256 / 256 / 256 / 256 := by rw [Nat.div_div_eq_div_mul, Nat.div_div_eq_div_mul, Nat.div_div_eq_div_mul, Nat.div_div_eq_div_mul, Nat.div_div_eq_div_mul, Nat.div_div_eq_div_mul]
  rw [e2, e3, e4, e5, e6, e7]
  omega
theorem wordS_bytesS (n : Int) (h1 : -9223372036854775808 ≤ n) (h2 : n ≤ 9223372036854775807) : wordS (bytesS n) = n := by
  unfold wordS bytesS leS leS leS leS leS leS leS leS leS
  simp only [byteN_toNat]
  generalize hm : (n % 18446744073709551616).toNat = m
  have hm2 : m < 18446744073709551616 := by omega
  rw [leS_bytes m hm2]
  unfold wrap64
  omega

def lw : List Rg := (mapAtS [] 8192 64 3).1
theorem lw_1 : (mapAtS [] 8192 64 3).2 = 0 := by decide +kernel
theorem lw_2 : lw = [⟨8192, 64, 3, zeros 64⟩] := by decide +kernel
theorem lw_part {at_ : Int} {n : Nat} {p : Int} (hp : has 3 p = true) : partS lw at_ n p = if 8192 ≤ at_ ∧ at_ - 8192 < 64 ∧ (n : Int) ≤ 64 - (at_ - 8192) then 0 else 50 := by
  rw [lw_2]
  by_cases h : inside at_ ⟨8192, 64, 3, zeros 64⟩ = true
  · have hk : partK [⟨8192, 64, 3, zeros 64⟩] at_ = 0 := by unfold partK; simp [List.findIdx_cons, h]
    rw [partS_some (r := ⟨8192, 64, 3, zeros 64⟩) (by rw [hk]; rfl)]
    obtain ⟨h1, h2⟩ := inside_iff h
    simp only at h1 h2
    simp only [hp]
    by_cases h3 : 64 - (at_ - 8192) < (n : Int)
    · rw [if_pos h3, if_neg (by omega)]
    · rw [if_neg h3, if_neg (by decide), if_pos ⟨h1, h2, by omega⟩]
  · have h' : inside at_ ⟨8192, 64, 3, zeros 64⟩ = false := by simpa using h
    rw [partS_none (by unfold partK; simp [List.findIdx_cons, h'])]
    unfold inside at h'
    simp at h'
    rw [if_neg (by omega)]
theorem lw_set {at_ n : Int} (h : ¬ (at_ < 8192 ∨ 8248 < at_)) : (setS lw at_ (bytesS n) 2).2 = 0 ∧ (setS lw at_ (bytesS n) 2).1 = [⟨8192, 64, 3, over (zeros 64) (at_ - 8192).toNat (bytesS n)⟩] := by
  have hb : (bytesS n).length = 8 := rfl
  have hE : partS lw at_ (bytesS n).length 2 = 0 := by rw [hb, lw_part (by decide), if_pos (by omega)]
  rw [setS_ok (by rw [hb]; omega) hE]
  refine ⟨rfl, ?_⟩
  have hi : inside at_ ⟨8192, 64, 3, zeros 64⟩ = true := inside_tt (by simp only; omega) (by simp only; omega)
  have hk : partK lw at_ = 0 := by rw [lw_2]; unfold partK; simp [List.findIdx_cons, hi]
  simp only [hk]
  rw [lw_2]
  rfl
theorem lw_bad {at_ n : Int} (h : at_ < 8192 ∨ 8248 < at_) : (setS lw at_ (bytesS n) 2).2 = 50 := by
  have hb : (bytesS n).length = 8 := rfl
  have hE : partS lw at_ (bytesS n).length 2 = 50 := by rw [hb, lw_part (by decide), if_neg (by omega)]
  rw [setS_bad (by rw [hb]; omega) (by rw [hE]; decide), hE]
theorem lw_get {at_ n : Int} (h : ¬ (at_ < 8192 ∨ 8248 < at_)) : getS [⟨8192, 64, 3, over (zeros 64) (at_ - 8192).toNat (bytesS n)⟩] at_ 8 1 = (bytesS n, 0) := by
  have hb : (bytesS n).length = 8 := rfl
  have hi : inside at_ ⟨8192, 64, 3, over (zeros 64) (at_ - 8192).toNat (bytesS n)⟩ = true := inside_tt (by simp only; omega) (by simp only; omega)
  have hk : partK [⟨8192, 64, 3, over (zeros 64) (at_ - 8192).toNat (bytesS n)⟩] at_ = 0 := by unfold partK; simp [List.findIdx_cons, hi]
  have hE : partS [⟨8192, 64, 3, over (zeros 64) (at_ - 8192).toNat (bytesS n)⟩] at_ 8 1 = 0 := by
    rw [partS_some (r := ⟨8192, 64, 3, over (zeros 64) (at_ - 8192).toNat (bytesS n)⟩) (by rw [hk]; rfl)]
    simp only [show has 3 1 = true by decide]
    rw [if_neg (by omega)]; rfl
  have := getS_ok (n := 8) (r := ⟨8192, 64, 3, over (zeros 64) (at_ - 8192).toNat (bytesS n)⟩) (by decide) (by decide) hE (by rw [hk]; rfl)
  rw [show ((8 : Nat) : Int) = 8 from rfl] at this
  rw [this]
  have hz : (zeros 64).length = 64 := by unfold zeros; simp
  congr 1
  simp only
  unfold over
  have hl : ((zeros 64).take (at_ - 8192).toNat).length = (at_ - 8192).toNat := by rw [List.length_take, hz]; omega
  rw [List.append_assoc]
  conv => lhs; rw [← hl]
  rw [hl, List.drop_left' hl, ← hb, List.take_left]
theorem lw_word {at_ n : Int} (h : ¬ (at_ < 8192 ∨ 8248 < at_)) (h1 : -9223372036854775808 ≤ n) (h2 : n ≤ 9223372036854775807) : wordAt [⟨8192, 64, 3, over (zeros 64) (at_ - 8192).toNat (bytesS n)⟩] at_ 1 = (n, 0) := by
  unfold wordAt
  rw [lw_get h, wordS_bytesS n h1 h2]
end Go.Proofs.YtpenejigebkkmaaGreat
