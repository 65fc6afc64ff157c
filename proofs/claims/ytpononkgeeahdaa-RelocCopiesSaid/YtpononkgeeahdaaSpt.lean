/-
  Layer 5, plain: each act leaves a space as it may be.
  Conditions: none. (My own text.)
-/
import Derived.Test.YtpononkgeeahdaaSpl0
namespace Go.Proofs.Ytpononkgeeahdaa
open Go.RowKit Spm
set_option linter.unusedVariables false
set_option linter.unusedSimpArgs false

theorem Spm.Ok.unmap {L : List Rg} (h : Ok L) (at_ : Int) : Ok (unmapS L at_).1 := by
  unfold unmapS
  split
  · exact ⟨fun r hr => h.each r (List.mem_of_mem_eraseIdx hr), h.srt.sublist (List.eraseIdx_sublist _ _)⟩
  · exact h

theorem pw_get {α : Type} {R : α → α → Prop} {L : List α} (h : L.Pairwise R) {i j : Nat} {x y : α} (hx : L[i]? = some x) (hy : L[j]? = some y) (hij : i < j) : R x y := by
  obtain ⟨hi, ei⟩ := List.getElem?_eq_some_iff.1 hx
  obtain ⟨hj, ej⟩ := List.getElem?_eq_some_iff.1 hy
  have := List.pairwise_iff_getElem.1 h i j hi hj hij
  rwa [ei, ej] at this

theorem Spm.Ok.modify {L : List Rg} (h : Ok L) (k : Nat) (f : Rg → Rg) (hf : ∀ r, L[k]? = some r → RgOk (f r) ∧ (f r).at_ = r.at_ ∧ (f r).sz = r.sz) : Ok (L.modify k f) := by
  have hget : ∀ (i : Nat) (x : Rg), (L.modify k f)[i]? = some x → ∃ y : Rg, L[i]? = some y ∧ RgOk x ∧ x.at_ = y.at_ ∧ x.sz = y.sz := by
    intro i x hx
    rw [List.getElem?_modify] at hx
    cases hy : L[i]? with
    | none => rw [hy] at hx; simp at hx
    | some y =>
      rw [hy] at hx
      by_cases hik : k = i
      · subst hik
        have : f y = x := by simpa using hx
        subst this
        exact ⟨y, rfl, hf y hy⟩
      · have : y = x := by simpa [hik] using hx
        subst this
        exact ⟨y, rfl, h.each y (List.mem_of_getElem? hy), rfl, rfl⟩
  refine ⟨fun r hr => ?_, ?_⟩
  · obtain ⟨i, hi⟩ := List.mem_iff_getElem?.1 hr
    obtain ⟨y, _, h2, _⟩ := hget i r hi
    exact h2
  · rw [List.pairwise_iff_getElem]
    intro i j hi hj hij
    obtain ⟨x, hx, _, a1, a2⟩ := hget i _ (List.getElem?_eq_getElem hi)
    obtain ⟨y, hy, _, b1, b2⟩ := hget j _ (List.getElem?_eq_getElem hj)
    have := pw_get h.srt hx hy hij
    unfold Apart at this ⊢
    rw [a1, a2, b1]
    exact this

theorem Spm.Ok.protect {L : List Rg} (h : Ok L) (at_ p : Int) : Ok (protectS L at_ p).1 := by
  unfold protectS
  split
  · exact h
  · split
    · refine h.modify _ _ (fun r hr => ⟨?_, rfl, rfl⟩)
      have hr := h.each r (List.mem_of_getElem? hr)
      exact ⟨hr.lo, hr.al, hr.sal, hr.slo, hr.shi, hr.hi, by simp only; omega, by simp only; omega, hr.len⟩
    · exact h

theorem over_len' (l b : List UInt8) (o : Nat) (h : o + b.length ≤ l.length) : (over l o b).length = l.length := by unfold over; simp; omega

theorem Spm.Ok.set {L : List Rg} (h : Ok L) (at_ : Int) (b : List UInt8) (p : Int) : Ok (setS L at_ b p).1 := by
  unfold setS
  split
  · exact h
  · split
    · exact h
    · rename_i hE
      have hE' : partS L at_ b.length p = 0 := by simpa using hE
      refine h.modify _ _ (fun r hr => ⟨?_, rfl, rfl⟩)
      have ho := h.each r (List.mem_of_getElem? hr)
      have hl : (over r.bs (at_ - r.at_).toNat b).length = r.bs.length := by
        obtain ⟨r', hr', h1, _, hin⟩ := partS_ok hE'
        rw [hr] at hr'
        cases hr'
        obtain ⟨h2, h3⟩ := inside_iff hin
        have := ho.len
        exact over_len' _ _ _ (by omega)
      exact ⟨ho.lo, ho.al, ho.sal, ho.slo, ho.shi, ho.hi, ho.p0, ho.p7, by simp only [hl]; exact ho.len⟩

theorem Spm.Ok.mapAt {L : List Rg} (h : Ok L) (at_ size p : Int) : Ok (mapAtS L at_ size p).1 := by
  by_cases hr : right size p = 0
  · by_cases hb : atBad at_ size
    · rw [mapAtS_b hr hb]; exact h
    · cases hm : meets L at_ (up size)
      · rw [mapAtS_ok hr hb hm]
        obtain ⟨z1, z2, z3, z4⟩ := right_eq hr
        obtain ⟨u1, u2, u3, u4⟩ := up_ge size z1
        have u5 := up_le size z1 z2
        unfold atBad at hb
        unfold meets at hm
        simp only [Bool.or_eq_false_iff, Bool.and_eq_false_iff, decide_eq_false_iff_not] at hm
        obtain ⟨m1, m2⟩ := hm
        generalize hk : insP at_ L = k at m1 m2
        have hkl : k ≤ L.length := by rw [← hk]; exact insP_le _ _
        have hlen : ((zeros (up size)).length : Int) = up size := by unfold zeros; simp; omega
        have hbefore : ∀ i x, L[i]? = some x → i < k → x.at_ + x.sz ≤ at_ := by
          intro i x hx hi
          obtain ⟨j, rfl⟩ : ∃ j, k = j + 1 := ⟨k - 1, by omega⟩
          rw [Nat.add_sub_cancel, List.getD_eq_getElem?_getD] at m1
          obtain ⟨y, hy⟩ : ∃ y, L[j]? = some y := ⟨L[j]'(by omega), List.getElem?_eq_getElem (by omega)⟩
          rw [hy] at m1
          have hyb : y.at_ < at_ := insP_before at_ L j y hy (by rw [hk]; omega)
          have hyE : y.at_ + y.sz ≤ at_ := by
            rcases m1 with m1 | m1
            · omega
            · simp only [Option.getD_some] at m1; omega
          rcases Nat.lt_or_ge i j with h1 | h1
          · have h2 := pw_get h.srt hx hy h1
            unfold Apart at h2
            omega
          · have : i = j := by omega
            subst this
            rw [hy] at hx
            cases hx
            exact hyE
        have hafter : ∀ i x, L[i]? = some x → k ≤ i → at_ + up size ≤ x.at_ := by
          intro i x hx hi
          have hil := (List.getElem?_eq_some_iff.1 hx).1
          obtain ⟨y, hy⟩ : ∃ y, L[k]? = some y := ⟨L[k]'(by omega), List.getElem?_eq_getElem (by omega)⟩
          rw [List.getD_eq_getElem?_getD, hy] at m2
          have hyE : at_ + up size ≤ y.at_ := by
            rcases m2 with m2 | m2
            · omega
            · simp only [Option.getD_some] at m2; omega
          rcases Nat.lt_or_ge k i with h1 | h1
          · have h2 := pw_get h.srt hy hx h1
            have h3 := (h.each y (List.mem_of_getElem? hy)).slo
            unfold Apart at h2
            omega
          · have : i = k := by omega
            subst this
            rw [hy] at hx
            cases hx
            exact hyE
        have htake : ∀ x ∈ L.take k, x.at_ + x.sz ≤ at_ ∧ x ∈ L := fun x hx => by
          obtain ⟨i, hi⟩ := List.mem_iff_getElem?.1 hx
          rw [List.getElem?_take] at hi
          split at hi
          · exact ⟨hbefore i x hi (by assumption), List.mem_of_getElem? hi⟩
          · cases hi
        have hdrop : ∀ x ∈ L.drop k, at_ + up size ≤ x.at_ ∧ x ∈ L := fun x hx => by
          obtain ⟨i, hi⟩ := List.mem_iff_getElem?.1 hx
          rw [List.getElem?_drop] at hi
          exact ⟨hafter _ x hi (by omega), List.mem_of_getElem? hi⟩
        refine ⟨fun r hr => ?_, ?_⟩
        · rcases List.mem_append.1 hr with hr | hr
          · exact h.each r (htake r hr).2
          · rcases List.mem_cons.1 hr with rfl | hr
            · exact ⟨by simp only; omega, by simp only; omega, u2, u3, u5, by simp only; omega, z3, z4, hlen⟩
            · exact h.each r (hdrop r hr).2
        · rw [List.pairwise_append]
          refine ⟨h.srt.sublist (List.take_sublist _ _), List.pairwise_cons.2 ⟨fun x hx => ?_, h.srt.sublist (List.drop_sublist _ _)⟩, fun x hx y hy => ?_⟩
          · exact (hdrop x hx).1
          · have h1 := (htake x hx).1
            rcases List.mem_cons.1 hy with rfl | hy
            · exact h1
            · have h2 := (hdrop y hy).1
              unfold Apart
              omega
      · rw [mapAtS_m hr hb hm]; exact h
  · rw [mapAtS_r hr]; exact h

theorem Spm.Ok.map {L : List Rg} (h : Ok L) (size p : Int) : Ok (mapS L size p).1 := by
  unfold mapS
  split
  · exact h
  · split
    · exact h
    · exact h.mapAt _ _ _
end Go.Proofs.Ytpononkgeeahdaa
