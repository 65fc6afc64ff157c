/-
  The plain law of a space (layer 5), no Go in sight: a list of regions by their addresses; what each act does to it.
  Conditions: none. (My own text.)
-/
import Derived.Below
namespace Go.Proofs.Ytpononkgeeahdaa.Spm

/-- A region, and what stands in it. -/
structure Rg where
  at_ : Int
  sz : Int
  pm : Int
  bs : List UInt8
deriving DecidableEq, Inhabited

def up (n : Int) : Int := (n + 63) / 64 * 64

/-- A region as it may be. -/
structure RgOk (r : Rg) : Prop where
  lo : 4096 ≤ r.at_
  al : r.at_ % 64 = 0
  sal : r.sz % 64 = 0
  slo : 64 ≤ r.sz
  shi : r.sz ≤ 1048576
  hi : r.at_ + r.sz ≤ 4294967296
  p0 : 0 ≤ r.pm
  p7 : r.pm ≤ 7
  len : (r.bs.length : Int) = r.sz

/-- One behind the other, apart. -/
def Apart (a b : Rg) : Prop := a.at_ + a.sz ≤ b.at_

structure Ok (L : List Rg) : Prop where
  each : ∀ r ∈ L, RgOk r
  srt : L.Pairwise Apart

theorem up_ge (n : Int) (h : 1 ≤ n) : n ≤ up n ∧ up n % 64 = 0 ∧ 64 ≤ up n ∧ up n < n + 64 := by unfold up; omega
theorem up_le (n : Int) (h : 1 ≤ n) (h2 : n ≤ 1048576) : up n ≤ 1048576 := by unfold up; omega
theorem up_of_al (n : Int) (h : n % 64 = 0) : up n = n := by unfold up; omega

/-! ### Bounds on how many there are -/
theorem len_bound : ∀ (L : List Rg) (lo : Int), (∀ r ∈ L, RgOk r) → L.Pairwise Apart → (∀ r ∈ L, lo ≤ r.at_) → lo ≤ 4294967296 → lo + 64 * (L.length : Int) ≤ 4294967296
  | [], lo, _, _, _, h => by simpa using h
  | r :: L, lo, h1, h2, h3, h4 => by
    have hr := h1 r (by simp)
    have hlo := h3 r (by simp)
    obtain ⟨ha, hb⟩ := List.pairwise_cons.1 h2
    have hs := hr.slo; have hh := hr.hi
    have := len_bound L (r.at_ + r.sz) (fun x hx => h1 x (by simp [hx])) hb (fun x hx => ha x hx) hh
    simp only [List.length_cons]
    omega

theorem Ok.len {L : List Rg} (h : Ok L) : (L.length : Int) ≤ 67108864 := by
  have := len_bound L 4096 h.each h.srt (fun r hr => (h.each r hr).lo) (by omega)
  omega

theorem Ok.nil : Ok [] := ⟨by simp, by simp⟩

/-! ### Gap -/
def gapGo (n : Int) : List Rg → Int → Int
  | [], at_ => at_
  | r :: L, at_ => if n ≤ r.at_ - at_ then at_ else gapGo n L (max at_ (r.at_ + r.sz))

def gapS (L : List Rg) (size : Int) : Int × Int :=
  if size < 1 ∨ 1048576 < size then (0, 1) else
  if 4294967296 - up size < gapGo (up size) L 4096 then (0, 3) else (gapGo (up size) L 4096, 0)

theorem gapGo_bound (n : Int) : ∀ (L : List Rg) (at_ : Int), (∀ r ∈ L, RgOk r) → at_ ≤ 4294967296 → at_ ≤ gapGo n L at_ ∧ gapGo n L at_ ≤ 4294967296
  | [], at_, _, h => ⟨Int.le_refl _, h⟩
  | r :: L, at_, h1, h => by
    unfold gapGo
    split
    · exact ⟨Int.le_refl _, h⟩
    · have hr := (h1 r (by simp)).hi
      have := gapGo_bound n L (max at_ (r.at_ + r.sz)) (fun x hx => h1 x (by simp [hx])) (by omega)
      omega

theorem gapGo_al (n : Int) : ∀ (L : List Rg) (at_ : Int), (∀ r ∈ L, RgOk r) → at_ % 64 = 0 → gapGo n L at_ % 64 = 0
  | [], at_, _, h => h
  | r :: L, at_, h1, h => by
    unfold gapGo
    split
    · exact h
    · have hr := h1 r (by simp)
      have a1 := hr.al; have a2 := hr.sal
      exact gapGo_al n L _ (fun x hx => h1 x (by simp [hx])) (by omega)

/-- What the walk finds is free: each region ends at or before it, or begins behind what is wanted. -/
theorem gapGo_free (n : Int) (hn : 0 < n) : ∀ (L : List Rg) (at_ : Int), (∀ r ∈ L, RgOk r) → L.Pairwise Apart →
    ∀ r ∈ L, r.at_ + r.sz ≤ gapGo n L at_ ∨ gapGo n L at_ + n ≤ r.at_
  | [], _, _, _ => by simp
  | r :: L, at_, h1, h2 => by
    obtain ⟨ha, hb⟩ := List.pairwise_cons.1 h2
    have hr := h1 r (by simp)
    have e1 : ∀ x ∈ L, RgOk x := fun x hx => h1 x (by simp [hx])
    unfold gapGo
    split
    · rename_i hc
      intro x hx
      rcases List.mem_cons.1 hx with rfl | hx
      · right; omega
      · have := ha x hx
        have := hr.slo
        unfold Apart at *
        right; omega
    · intro x hx
      have ih := gapGo_free n hn L (max at_ (r.at_ + r.sz)) e1 hb
      rcases List.mem_cons.1 hx with rfl | hx
      · left
        by_cases hle : max at_ (x.at_ + x.sz) ≤ 4294967296
        · have := (gapGo_bound n L _ e1 hle).1
          omega
        · exact Int.le_trans (by omega) (gapGo_ge n L _)
      · exact ih x hx
where
  gapGo_ge (n : Int) : ∀ (L : List Rg) (at_ : Int), at_ ≤ gapGo n L at_
    | [], at_ => Int.le_refl _
    | r :: L, at_ => by
      unfold gapGo
      split
      · exact Int.le_refl _
      · have := gapGo_ge n L (max at_ (r.at_ + r.sz))
        omega

/-- .. and it is the least such place: whatever lies ahead of it, from where one began, meets a region. -/
theorem gapGo_least (n : Int) : ∀ (L : List Rg) (at_ x : Int), at_ ≤ x → x < gapGo n L at_ → ∃ r ∈ L, x < r.at_ + r.sz ∧ r.at_ < x + n
  | [], at_, x, h1, h2 => by unfold gapGo at h2; omega
  | r :: L, at_, x, h1, h2 => by
    unfold gapGo at h2
    split at h2
    · omega
    · by_cases hx : x < max at_ (r.at_ + r.sz)
      · refine ⟨r, by simp, ?_, ?_⟩ <;> omega
      · obtain ⟨y, hy, h3⟩ := gapGo_least n L _ x (by omega) h2
        exact ⟨y, by simp [hy], h3⟩

/-! ### MapAt -/
/-- Before which one a region at an address comes. -/
def insP (at_ : Int) : List Rg → Nat
  | [] => 0
  | r :: L => if r.at_ < at_ then insP at_ L + 1 else 0

theorem insP_le (at_ : Int) : ∀ L : List Rg, insP at_ L ≤ L.length
  | [] => Nat.le_refl _
  | r :: L => by
    have := insP_le at_ L
    unfold insP
    split <;> simp <;> omega

/-- So many, all of which lie before; and the next one, if there is one, does not: that is the place. -/
theorem insP_of (at_ : Int) : ∀ (L : List Rg) (k : Nat), k ≤ L.length → (∀ i r, L[i]? = some r → i < k → r.at_ < at_) → (∀ r, L[k]? = some r → ¬ r.at_ < at_) → insP at_ L = k
  | [], k, hk, _, _ => by simp at hk; subst hk; rfl
  | r :: L, 0, _, _, h2 => by
    have := h2 r rfl
    simp only [insP, if_neg this]
  | r :: L, k + 1, hk, h1, h2 => by
    have h0 := h1 0 r rfl (by omega)
    have := insP_of at_ L k (by simpa using hk) (fun i x hx hi => h1 (i + 1) x hx (by omega)) (fun x hx => h2 x hx)
    simp only [insP, if_pos h0, this]

theorem insP_before (at_ : Int) : ∀ (L : List Rg) (i : Nat) (x : Rg), L[i]? = some x → i < insP at_ L → x.at_ < at_
  | r :: L, 0, x, h, h2 => by
    simp at h; subst h
    unfold insP at h2
    split at h2
    · assumption
    · omega
  | r :: L, i + 1, x, h, h2 => by
    unfold insP at h2
    split at h2
    · exact insP_before at_ L i x (by simpa using h) (by omega)
    · omega

theorem insP_stop (at_ : Int) : ∀ (L : List Rg) (x : Rg), L[insP at_ L]? = some x → at_ ≤ x.at_
  | r :: L, x, h => by
    by_cases hc : r.at_ < at_
    · have e : insP at_ (r :: L) = insP at_ L + 1 := by simp only [insP, if_pos hc]
      rw [e] at h
      exact insP_stop at_ L x (by simpa using h)
    · have e : insP at_ (r :: L) = 0 := by simp only [insP, if_neg hc]
      rw [e] at h
      simp at h; subst h
      omega

def zeros (n : Int) : List UInt8 := List.replicate n.toNat 0

/-- Would it meet one that is there? -/
def meets (L : List Rg) (at_ n : Int) : Bool :=
  (decide (0 < insP at_ L) && decide (at_ < (L.getD (insP at_ L - 1) default).at_ + (L.getD (insP at_ L - 1) default).sz)) ||
  (decide (insP at_ L < L.length) && decide ((L.getD (insP at_ L) default).at_ < at_ + n))

def right (size p : Int) : Int := if size < 1 ∨ 1048576 < size ∨ p < 0 ∨ 7 < p then 1 else 0

def mapAtS (L : List Rg) (at_ size p : Int) : List Rg × Int :=
  if right size p ≠ 0 then (L, 1) else
  if at_ < 4096 ∨ at_ % 64 ≠ 0 ∨ 4294967296 - up size < at_ then (L, 1) else
  if meets L at_ (up size) = true then (L, 51) else
  (L.take (insP at_ L) ++ ⟨at_, up size, p, zeros (up size)⟩ :: L.drop (insP at_ L), 0)

def mapS (L : List Rg) (size p : Int) : List Rg × Int × Int :=
  if right size p ≠ 0 then (L, 0, 1) else
  if (gapS L size).2 ≠ 0 then (L, 0, (gapS L size).2) else
  ((mapAtS L (gapS L size).1 size p).1, (gapS L size).1, (mapAtS L (gapS L size).1 size p).2)

/-! ### Unmap, Protect -/
def findS (L : List Rg) (at_ : Int) : Nat := L.findIdx (fun r => r.at_ == at_)

def findI (L : List Rg) (at_ : Int) : Int := if findS L at_ < L.length then findS L at_ else 0
def findE (L : List Rg) (at_ : Int) : Int := if findS L at_ < L.length then 0 else 50

def unmapS (L : List Rg) (at_ : Int) : List Rg × Int :=
  if findS L at_ < L.length then (L.eraseIdx (findS L at_), 0) else (L, 50)

def protectS (L : List Rg) (at_ p : Int) : List Rg × Int :=
  if p < 0 ∨ 7 < p then (L, 1) else
  if findS L at_ < L.length then (L.modify (findS L at_) (fun r => { r with pm := p }), 0) else (L, 50)

/-! ### Reading and writing -/
def inside (at_ : Int) (r : Rg) : Bool := decide (r.at_ ≤ at_) && decide (at_ - r.at_ < r.sz)

/-- Has a permission another one (1, 2, 4, or 0: none)? -/
def has (pm p : Int) : Bool := decide (p = 0) || decide (pm / p % 2 = 1)

/-- The place of the region that has an address. -/
def partK (L : List Rg) (at_ : Int) : Nat := L.findIdx (inside at_)
/-- What is wrong with a range. -/
def partS (L : List Rg) (at_ : Int) (n : Nat) (p : Int) : Int :=
  match L[partK L at_]? with
  | none => 50
  | some r => if r.sz - (at_ - r.at_) < n then 50 else if has r.pm p = false then 52 else 0

theorem partS_none {L : List Rg} {at_ : Int} {n : Nat} {p : Int} (h : L.length ≤ partK L at_) : partS L at_ n p = 50 := by
  unfold partS; rw [List.getElem?_eq_none h]
theorem partS_some {L : List Rg} {at_ : Int} {n : Nat} {p : Int} {r : Rg} (h : L[partK L at_]? = some r) : partS L at_ n p = if r.sz - (at_ - r.at_) < n then 50 else if has r.pm p = false then 52 else 0 := by
  unfold partS; rw [h]

def getS (L : List Rg) (at_ n p : Int) : List UInt8 × Int :=
  if n < 1 ∨ 1048576 < n then ([], 1) else
  if partS L at_ n.toNat p ≠ 0 then ([], partS L at_ n.toNat p) else
  match L[partK L at_]? with
  | none => ([], 50)
  | some r => ((r.bs.drop (at_ - r.at_).toNat).take n.toNat, 0)

/-- A list with a stretch written over. -/
def over (l : List UInt8) (k : Nat) (b : List UInt8) : List UInt8 := l.take k ++ b ++ l.drop (k + b.length)

def setS (L : List Rg) (at_ : Int) (b : List UInt8) (p : Int) : List Rg × Int :=
  if b.length < 1 ∨ 1048576 < b.length then (L, 1) else
  if partS L at_ b.length p ≠ 0 then (L, partS L at_ b.length p) else
  (L.modify (partK L at_) (fun r => { r with bs := over r.bs (at_ - r.at_).toNat b }), 0)

end Go.Proofs.Ytpononkgeeahdaa.Spm
