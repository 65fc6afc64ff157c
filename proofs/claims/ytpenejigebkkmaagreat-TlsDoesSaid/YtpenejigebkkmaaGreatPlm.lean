/-
  Layer 15, plain: an image's segments are mapped one behind the other; what was mapped is taken out again.
  Conditions: none. (My own text.)
-/
import Derived.Test.YtpenejigebkkmaaGreatSp6
import Derived.Test.YtpenejigebkkmaaGreatSp4
namespace Go.Proofs.YtpenejigebkkmaaGreat
open Spm
set_option linter.unusedVariables false
set_option linter.unusedSimpArgs false

/-- A segment; where its bytes stand. -/
structure Sg where
  at_ : Int
  sz : Int
  b : List UInt8
  A : Option Addr
  c : Nat
  pm : Int

/-- The segments' addresses. -/
def outS (base : Int) (l : List Sg) (r : Rg) : Bool := l.all fun s => r.at_ != base + s.at_
def unAll (L : List Rg) (base : Int) (l : List Sg) : List Rg := l.foldl (fun L s => (unmapS L (base + s.at_)).1) L
def unErr (L : List Rg) (base : Int) : Int → List Sg → Int
  | e, [] => e
  | e, s :: l => unErr (unmapS L (base + s.at_)).1 base (if e = 0 then (unmapS L (base + s.at_)).2 else e) l
/-- The segments that are to come, behind those that are there. -/
def goM (base : Int) : List Rg → List Sg → List Sg → List Rg × Int × Int
  | L, _, [] => (L, base, 0)
  | L, d, s :: l =>
    if (mapAtS L (base + s.at_) s.sz s.pm).2 ≠ 0 then (unAll (mapAtS L (base + s.at_) s.sz s.pm).1 base d, 0, (mapAtS L (base + s.at_) s.sz s.pm).2) else
    if s.b = [] then goM base (mapAtS L (base + s.at_) s.sz s.pm).1 (d ++ [s]) l else
    if (setS (mapAtS L (base + s.at_) s.sz s.pm).1 (base + s.at_) s.b 0).2 ≠ 0 then (unAll (setS (mapAtS L (base + s.at_) s.sz s.pm).1 (base + s.at_) s.b 0).1 base (d ++ [s]), 0, (setS (mapAtS L (base + s.at_) s.sz s.pm).1 (base + s.at_) s.b 0).2) else
    goM base (setS (mapAtS L (base + s.at_) s.sz s.pm).1 (base + s.at_) s.b 0).1 (d ++ [s]) l

theorem eraseIdx_filter {α : Type} (p : α → Bool) : ∀ (l : List α), l.findIdx (fun x => !p x) < l.length → (∀ (i j : Nat) (x y : α), l[i]? = some x → l[j]? = some y → p x = false → p y = false → i = j) → l.eraseIdx (l.findIdx (fun x => !p x)) = l.filter p
  | [], h, _ => by simp at h
  | x :: l, h, hu => by
    by_cases hx : p x = true
    · have hf : (x :: l).findIdx (fun x => !p x) = l.findIdx (fun x => !p x) + 1 := by simp [List.findIdx_cons, hx]
      rw [hf] at h ⊢
      rw [List.eraseIdx_cons_succ, List.filter_cons_of_pos hx]
      congr 1
      exact eraseIdx_filter p l (by simpa using h) (fun i j a b ha hb h1 h2 => by have := hu (i + 1) (j + 1) a b (by simpa using ha) (by simpa using hb) h1 h2; omega)
    · have hx' : p x = false := by simpa using hx
      have hf : (x :: l).findIdx (fun x => !p x) = 0 := by simp [List.findIdx_cons, hx']
      rw [hf, List.eraseIdx_cons_zero, List.filter_cons_of_neg (by simp [hx'])]
      symm
      rw [List.filter_eq_self]
      intro a ha
      obtain ⟨i, hi⟩ := List.mem_iff_getElem?.1 ha
      by_cases hpa : p a = true
      · exact hpa
      · have := hu 0 (i + 1) x a rfl (by simpa using hi) hx' (by simpa using hpa)
        omega
theorem at_unique {L : List Rg} (h : Ok L) {i j : Nat} {r s : Rg} (hi : L[i]? = some r) (hj : L[j]? = some s) (e : r.at_ = s.at_) : i = j := by
  have h1 := (h.each r (List.mem_of_getElem? hi)).slo
  have h2 := (h.each s (List.mem_of_getElem? hj)).slo
  exact ok_unique h hi hj (inside_of (x := r.at_) (Int.le_refl _) (by omega)) (inside_of (by omega) (by omega))
theorem unmap_filter {L : List Rg} (h : Ok L) (x : Int) : (unmapS L x).1 = L.filter (fun r => r.at_ != x) := by
  unfold unmapS
  have he : findS L x = L.findIdx (fun r => !(r.at_ != x)) := by unfold findS; congr 1; funext r; simp [bne]
  split
  · rename_i hlt
    rw [he] at hlt ⊢
    exact eraseIdx_filter (fun r => r.at_ != x) L hlt (fun i j a b ha hb h1 h2 => at_unique h ha hb (by simp at h1 h2; omega))
  · rename_i hge
    symm
    simp only [List.filter_eq_self]
    intro r hr
    by_cases hx : r.at_ = x
    · exfalso
      apply hge
      unfold findS
      exact List.findIdx_lt_length_of_exists ⟨r, hr, by simp [hx]⟩
    · simp [hx]
theorem unAll_filter (base : Int) : ∀ (l : List Sg) (L : List Rg), Ok L → unAll L base l = L.filter (outS base l)
  | [], L, h => by
    have e : outS base [] = fun _ => true := by funext r; simp [outS]
    rw [e]; exact (List.filter_eq_self.2 (fun _ _ => rfl)).symm
  | s :: l, L, h => by
    show unAll (unmapS L (base + s.at_)).1 base l = _
    rw [unAll_filter base l _ (h.unmap _), unmap_filter h, List.filter_filter]
    congr 1
    funext r
    simp [outS, Bool.and_comm]
theorem unAll_ok (base : Int) : ∀ (l : List Sg) (L : List Rg), Ok L → Ok (unAll L base l)
  | [], L, h => h
  | s :: l, L, h => unAll_ok base l _ (h.unmap _)

/-- A region that was mapped: the list without it is as it was. -/
theorem mapAt_filter {L : List Rg} {x n p : Int} (he : (mapAtS L x n p).2 = 0) (q : Rg → Bool) (hq : q ⟨x, up n, p, zeros (up n)⟩ = false) : (mapAtS L x n p).1.filter q = L.filter q := by
  unfold mapAtS at he ⊢
  split at he; · cases he
  split at he; · cases he
  split at he; · cases he
  rename_i h1 h2 h3
  rw [if_neg h1, if_neg h2, if_neg h3]
  simp only
  rw [List.filter_append, List.filter_cons_of_neg (by simp [hq]), ← List.filter_append, List.take_append_drop]
theorem mapAt_len {L : List Rg} {x n p : Int} (he : (mapAtS L x n p).2 = 0) : (mapAtS L x n p).1.length = L.length + 1 := by
  unfold mapAtS at he ⊢
  split at he; · cases he
  split at he; · cases he
  split at he; · cases he
  rename_i h1 h2 h3
  rw [if_neg h1, if_neg h2, if_neg h3]
  have := insP_le x L
  simp
  omega
theorem mapAt_mem {L : List Rg} {x n p : Int} (he : (mapAtS L x n p).2 = 0) : ⟨x, up n, p, zeros (up n)⟩ ∈ (mapAtS L x n p).1 ∧ ∀ r ∈ L, r ∈ (mapAtS L x n p).1 := by
  unfold mapAtS at he ⊢
  split at he; · cases he
  split at he; · cases he
  split at he; · cases he
  rename_i h1 h2 h3
  rw [if_neg h1, if_neg h2, if_neg h3]
  refine ⟨by simp, fun r hr => ?_⟩
  rw [← List.take_append_drop (insP x L) L] at hr
  simp only [List.mem_append, List.mem_cons] at hr ⊢
  rcases hr with h | h
  · exact .inl h
  · exact .inr (.inr h)
theorem filter_modify (q : Rg → Bool) (f : Rg → Rg) (hf : ∀ r, q (f r) = q r) : ∀ (L : List Rg) (k : Nat) (r : Rg), L[k]? = some r → q r = false → (L.modify k f).filter q = L.filter q
  | [], k, r, h, _ => by simp at h
  | y :: L, 0, r, h, hq => by
    simp at h; subst h
    rw [List.modify_zero_cons, List.filter_cons_of_neg (by simp [hf, hq]), List.filter_cons_of_neg (by simp [hq])]
  | y :: L, k + 1, r, h, hq => by
    rw [List.modify_succ_cons]
    have ih := filter_modify q f hf L k r (by simpa using h) hq
    by_cases hy : q y = true
    · rw [List.filter_cons_of_pos hy, List.filter_cons_of_pos hy, ih]
    · rw [List.filter_cons_of_neg hy, List.filter_cons_of_neg hy, ih]
/-- A store into a region that begins there. -/
theorem set_filter {L : List Rg} (h : Ok L) {x : Int} {b : List UInt8} {p : Int} {r : Rg} (hr : r ∈ L) (hx : r.at_ = x) (q : Int → Bool) (hq : q x = false) : (setS L x b p).1.filter (fun r => q r.at_) = L.filter (fun r => q r.at_) := by
  unfold setS
  split; · rfl
  split; · rfl
  obtain ⟨i, hi⟩ := List.mem_iff_getElem?.1 hr
  have hs := (h.each r hr).slo
  have hk := partK_eq h hi (inside_of (x := x) (by omega) (by omega))
  simp only
  rw [hk]
  exact filter_modify (fun r => q r.at_) (fun r => { r with bs := over r.bs (x - r.at_).toNat b }) (fun r => rfl) L i r hi (by simp [hx, hq])
theorem set_length (L : List Rg) (x : Int) (b : List UInt8) (p : Int) : (setS L x b p).1.length = L.length := by
  unfold setS
  split; · rfl
  split; · rfl
  simp

/-- What stands on the way. -/
structure MInv (L0 : List Rg) (base : Int) (L : List Rg) (d : List Sg) : Prop where
  ok : Ok L
  out : L.filter (outS base d) = L0
  len : L.length = L0.length + d.length
theorem outS_snoc (base : Int) (d : List Sg) (s : Sg) : outS base (d ++ [s]) = fun r => outS base d r && (r.at_ != base + s.at_) := by
  funext r; simp [outS, List.all_append]
theorem filter_at {L0 : List Rg} {x : Int} (h : ∀ r ∈ L0, r.at_ ≠ x) : L0.filter (fun r => r.at_ != x) = L0 := by
  rw [List.filter_eq_self]; intro r hr; simpa using h r hr
theorem MInv.map {L0 L : List Rg} {base : Int} {d : List Sg} (h : MInv L0 base L d) (s : Sg) (he : (mapAtS L (base + s.at_) s.sz s.pm).2 = 0) : MInv L0 base (mapAtS L (base + s.at_) s.sz s.pm).1 (d ++ [s]) := by
  have hok := h.ok.mapAt (base + s.at_) s.sz s.pm
  obtain ⟨m1, m2⟩ := mapAt_mem he
  have hno : ∀ r ∈ L, r.at_ ≠ base + s.at_ := fun r hr hx => by
    -- a region of L that begins there would stand in the new list twice
    have hl := mapAt_len he
    have hf := mapAt_filter he (fun r => r.at_ != base + s.at_) (by simp)
    have h1 : (mapAtS L (base + s.at_) s.sz s.pm).1.filter (fun r => r.at_ != base + s.at_) = (unmapS (mapAtS L (base + s.at_) s.sz s.pm).1 (base + s.at_)).1 := (unmap_filter hok _).symm
    have h2 : (unmapS (mapAtS L (base + s.at_) s.sz s.pm).1 (base + s.at_)).1.length + 1 ≥ (mapAtS L (base + s.at_) s.sz s.pm).1.length := by
      unfold unmapS
      split
      · rename_i hlt; simp only; rw [List.length_eraseIdx]; split <;> omega
      · simp
    rw [← h1, hf] at h2
    have h3 : (L.filter (fun r => r.at_ != base + s.at_)).length < L.length := by
      rcases Nat.lt_or_ge (L.filter (fun r => r.at_ != base + s.at_)).length L.length with h | h
      · exact h
      · have := List.filter_eq_self.1 (List.filter_sublist.eq_of_length_le h) r hr
        simp [hx] at this
    omega
  refine ⟨hok, ?_, by rw [mapAt_len he, h.len]; simp; omega⟩
  rw [outS_snoc, mapAt_filter he _ (by simp), ← List.filter_filter (p := fun r => outS base d r) (q := fun r => r.at_ != base + s.at_)]
  rw [filter_at hno]
  exact h.out
theorem MInv.set {L0 L : List Rg} {base : Int} {d : List Sg} {s : Sg} (h : MInv L0 base L (d ++ [s])) (hm : ∃ r ∈ L, r.at_ = base + s.at_) (b : List UInt8) (p : Int) : MInv L0 base (setS L (base + s.at_) b p).1 (d ++ [s]) := by
  obtain ⟨r, hr, hx⟩ := hm
  refine ⟨h.ok.set _ _ _, ?_, by rw [set_length]; exact h.len⟩
  have := set_filter (b := b) (p := p) h.ok hr hx (fun x => (d ++ [s]).all fun t => x != base + t.at_) (by simp)
  exact this.trans h.out

/-- THE PLAIN LAW: all of them, or none. -/
theorem goM_all {L0 : List Rg} {base : Int} : ∀ (l d : List Sg) (L : List Rg), MInv L0 base L d →
    ((goM base L d l).2.2 ≠ 0 → (goM base L d l).1 = L0 ∧ (goM base L d l).2.1 = 0) ∧ ((goM base L d l).2.2 = 0 → MInv L0 base (goM base L d l).1 (d ++ l) ∧ (goM base L d l).2.1 = base) ∧ Ok (goM base L d l).1
  | [], d, L, h => by
    unfold goM
    exact ⟨fun h0 => absurd rfl h0, fun _ => ⟨by rw [List.append_nil]; exact h, rfl⟩, h.ok⟩
  | s :: l, d, L, h => by
    unfold goM
    by_cases he : (mapAtS L (base + s.at_) s.sz s.pm).2 = 0
    · rw [if_neg (by simpa using he)]
      have h1 := h.map s he
      have hm : ∃ r ∈ (mapAtS L (base + s.at_) s.sz s.pm).1, r.at_ = base + s.at_ := ⟨_, (mapAt_mem he).1, rfl⟩
      by_cases hb : s.b = []
      · rw [if_pos hb]
        have := goM_all l (d ++ [s]) _ h1
        rwa [List.append_assoc] at this
      · rw [if_neg hb]
        have h2 := h1.set hm s.b 0
        by_cases hp : (setS (mapAtS L (base + s.at_) s.sz s.pm).1 (base + s.at_) s.b 0).2 = 0
        · rw [if_neg (by simpa using hp)]
          have := goM_all l (d ++ [s]) _ h2
          rwa [List.append_assoc] at this
        · rw [if_pos hp]
          exact ⟨fun _ => ⟨by rw [unAll_filter base _ _ h2.ok]; exact h2.out, rfl⟩, fun h0 => absurd h0 hp, unAll_ok base _ _ h2.ok⟩
    · rw [if_pos he]
      have hr := mapAt_refused he
      refine ⟨fun _ => ⟨by simp only; rw [hr, unAll_filter base _ _ h.ok]; exact h.out, rfl⟩, fun h0 => absurd h0 he, by simp only; rw [hr]; exact unAll_ok base _ _ h.ok⟩
end Go.Proofs.YtpenejigebkkmaaGreat
