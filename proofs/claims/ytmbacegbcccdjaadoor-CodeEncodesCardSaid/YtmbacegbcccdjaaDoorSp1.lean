/-
  The plain law of a space (layer 5), no Go in sight: a list of regions by their addresses; what each act does to it.
  Blocks of cells, known whole: what an allocation, a draw, a store, a callee leaves of them.
  A space in memory (layer 5): a block with the slice of regions, the row of regions, each region's bytes; what keeps it.
  Layer 5: what up, right, find, Gap of the program compute.
  Layer 5: what Gap of the program computes.
  Layer 5: what part of the program computes: where a range stands.
  Conditions: none. (My own text.)
-/
import Derived.Below
import Derived.Test.YtmbacegbcccdjaaDoorFrame
import Derived.Deep.Draws
import Derived.Test.YtmbacegbcccdjaaDoorCalm
import Derived.Laws.OwnMore
import Derived.IntWalk
import Derived.Deep.QuietTactic
import Derived.BigQuiet
import Derived.Laws.BitsAllLaws
namespace Go.Proofs.YtmbacegbcccdjaaDoor.Spm

/-- A region, and what stands in it. -/
structure Rg where
  at_ : Int
  sz : Int
  pm : Int
  bs : List UInt8
deriving DecidableEq, Inhabited

def up (n : Int) : Int := (n + 63) / 64 * 64

/-- A region as it may be. -/
structure RgOk (r : Rg) : Prop where
  lo : 4096 ≤ r.at_
  al : r.at_ % 64 = 0
  sal : r.sz % 64 = 0
  slo : 64 ≤ r.sz
  shi : r.sz ≤ 1048576
  hi : r.at_ + r.sz ≤ 4294967296
  p0 : 0 ≤ r.pm
  p7 : r.pm ≤ 7
  len : (r.bs.length : Int) = r.sz

/-- One behind the other, apart. -/
def Apart (a b : Rg) : Prop := a.at_ + a.sz ≤ b.at_

structure Ok (L : List Rg) : Prop where
  each : ∀ r ∈ L, RgOk r
  srt : L.Pairwise Apart

theorem up_ge (n : Int) (h : 1 ≤ n) : n ≤ up n ∧ up n % 64 = 0 ∧ 64 ≤ up n ∧ up n < n + 64 := by unfold up; omega
theorem up_le (n : Int) (h : 1 ≤ n) (h2 : n ≤ 1048576) : up n ≤ 1048576 := by unfold up; omega
theorem up_of_al (n : Int) (h : n % 64 = 0) : up n = n := by unfold up; omega

/-! ### Bounds on how many there are -/
theorem len_bound : ∀ (L : List Rg) (lo : Int), (∀ r ∈ L, RgOk r) → L.Pairwise Apart → (∀ r ∈ L, lo ≤ r.at_) → lo ≤ 4294967296 → lo + 64 * (L.length : Int) ≤ 4294967296
  | [], lo, _, _, _, h => by simpa using h
  | r :: L, lo, h1, h2, h3, h4 => by
    have hr := h1 r (by simp)
    have hlo := h3 r (by simp)
    obtain ⟨ha, hb⟩ := List.pairwise_cons.1 h2
    have hs := hr.slo; have hh := hr.hi
    have := len_bound L (r.at_ + r.sz) (fun x hx => h1 x (by simp [hx])) hb (fun x hx => ha x hx) hh
    simp only [List.length_cons]
    omega

theorem Ok.len {L : List Rg} (h : Ok L) : (L.length : Int) ≤ 67108864 := by
  have := len_bound L 4096 h.each h.srt (fun r hr => (h.each r hr).lo) (by omega)
  omega

theorem Ok.nil : Ok [] := ⟨by simp, by simp⟩

/-! ### Gap -/
def gapGo (n : Int) : List Rg → Int → Int
  | [], at_ => at_
  | r :: L, at_ => if n ≤ r.at_ - at_ then at_ else gapGo n L (max at_ (r.at_ + r.sz))

def gapS (L : List Rg) (size : Int) : Int × Int :=
  if size < 1 ∨ 1048576 < size then (0, 1) else
  if 4294967296 - up size < gapGo (up size) L 4096 then (0, 3) else (gapGo (up size) L 4096, 0)

theorem gapGo_bound (n : Int) : ∀ (L : List Rg) (at_ : Int), (∀ r ∈ L, RgOk r) → at_ ≤ 4294967296 → at_ ≤ gapGo n L at_ ∧ gapGo n L at_ ≤ 4294967296
  | [], at_, _, h => ⟨Int.le_refl _, h⟩
  | r :: L, at_, h1, h => by
    unfold gapGo
    split
    · exact ⟨Int.le_refl _, h⟩
    · have hr := (h1 r (by simp)).hi
      have := gapGo_bound n L (max at_ (r.at_ + r.sz)) (fun x hx => h1 x (by simp [hx])) (by omega)
      omega

theorem gapGo_al (n : Int) : ∀ (L : List Rg) (at_ : Int), (∀ r ∈ L, RgOk r) → at_ % 64 = 0 → gapGo n L at_ % 64 = 0
  | [], at_, _, h => h
  | r :: L, at_, h1, h => by
    unfold gapGo
    split
    · exact h
    · have hr := h1 r (by simp)
      have a1 := hr.al; have a2 := hr.sal
      exact gapGo_al n L _ (fun x hx => h1 x (by simp [hx])) (by omega)

/-- What the walk finds is free: each region ends at or before it, or begins behind what is wanted. -/
theorem gapGo_free (n : Int) (hn : 0 < n) : ∀ (L : List Rg) (at_ : Int), (∀ r ∈ L, RgOk r) → L.Pairwise Apart →
    ∀ r ∈ L, r.at_ + r.sz ≤ gapGo n L at_ ∨ gapGo n L at_ + n ≤ r.at_
  | [], _, _, _ => by simp
  | r :: L, at_, h1, h2 => by
    obtain ⟨ha, hb⟩ := List.pairwise_cons.1 h2
    have hr := h1 r (by simp)
    have e1 : ∀ x ∈ L, RgOk x := fun x hx => h1 x (by simp [hx])
    unfold gapGo
    split
    · rename_i hc
      intro x hx
      rcases List.mem_cons.1 hx with rfl | hx
      · right; omega
      · have := ha x hx
        have := hr.slo
        unfold Apart at *
        right; omega
    · intro x hx
      have ih := gapGo_free n hn L (max at_ (r.at_ + r.sz)) e1 hb
      rcases List.mem_cons.1 hx with rfl | hx
      · left
        by_cases hle : max at_ (x.at_ + x.sz) ≤ 4294967296
        · have := (gapGo_bound n L _ e1 hle).1
          omega
        · exact Int.le_trans (by omega) (gapGo_ge n L _)
      · exact ih x hx
where
  gapGo_ge (n : Int) : ∀ (L : List Rg) (at_ : Int), at_ ≤ gapGo n L at_
    | [], at_ => Int.le_refl _
    | r :: L, at_ => by
      unfold gapGo
      split
      · exact Int.le_refl _
      · have := gapGo_ge n L (max at_ (r.at_ + r.sz))
        omega

/-- .. and it is the least such place: whatever lies ahead of it, from where one began, meets a region. -/
theorem gapGo_least (n : Int) : ∀ (L : List Rg) (at_ x : Int), at_ ≤ x → x < gapGo n L at_ → ∃ r ∈ L, x < r.at_ + r.sz ∧ r.at_ < x + n
  | [], at_, x, h1, h2 => by unfold gapGo at h2; omega
  | r :: L, at_, x, h1, h2 => by
    unfold gapGo at h2
    split at h2
    · omega
    · by_cases hx : x < max at_ (r.at_ + r.sz)
      · refine ⟨r, by simp, ?_, ?_⟩ <;> omega
      · obtain ⟨y, hy, h3⟩ := gapGo_least n L _ x (by omega) h2
        exact ⟨y, by simp [hy], h3⟩

/-! ### MapAt -/
/-- Before which one a region at an address comes. -/
def insP (at_ : Int) : List Rg → Nat
  | [] => 0
  | r :: L => if r.at_ < at_ then insP at_ L + 1 else 0

theorem insP_le (at_ : Int) : ∀ L : List Rg, insP at_ L ≤ L.length
  | [] => Nat.le_refl _
  | r :: L => by
    have := insP_le at_ L
    unfold insP
    split <;> simp <;> omega

/-- So many, all of which lie before; and the next one, if there is one, does not: that is the place. -/
theorem insP_of (at_ : Int) : ∀ (L : List Rg) (k : Nat), k ≤ L.length → (∀ i r, L[i]? = some r → i < k → r.at_ < at_) → (∀ r, L[k]? = some r → ¬ r.at_ < at_) → insP at_ L = k
  | [], k, hk, _, _ => by simp at hk; subst hk; rfl
  | r :: L, 0, _, _, h2 => by
    have := h2 r rfl
    simp only [insP, if_neg this]
  | r :: L, k + 1, hk, h1, h2 => by
    have h0 := h1 0 r rfl (by omega)
    have := insP_of at_ L k (by simpa using hk) (fun i x hx hi => h1 (i + 1) x hx (by omega)) (fun x hx => h2 x hx)
    simp only [insP, if_pos h0, this]

theorem insP_before (at_ : Int) : ∀ (L : List Rg) (i : Nat) (x : Rg), L[i]? = some x → i < insP at_ L → x.at_ < at_
  | r :: L, 0, x, h, h2 => by
    simp at h; subst h
    unfold insP at h2
    split at h2
    · assumption
    · omega
  | r :: L, i + 1, x, h, h2 => by
    unfold insP at h2
    split at h2
    · exact insP_before at_ L i x (by simpa using h) (by omega)
    · omega

theorem insP_stop (at_ : Int) : ∀ (L : List Rg) (x : Rg), L[insP at_ L]? = some x → at_ ≤ x.at_
  | r :: L, x, h => by
    by_cases hc : r.at_ < at_
    · have e : insP at_ (r :: L) = insP at_ L + 1 := by simp only [insP, if_pos hc]
      rw [e] at h
      exact insP_stop at_ L x (by simpa using h)
    · have e : insP at_ (r :: L) = 0 := by simp only [insP, if_neg hc]
      rw [e] at h
      simp at h; subst h
      omega

def zeros (n : Int) : List UInt8 := List.replicate n.toNat 0

/-- Would it meet one that is there? -/
def meets (L : List Rg) (at_ n : Int) : Bool :=
  (decide (0 < insP at_ L) && decide (at_ < (L.getD (insP at_ L - 1) default).at_ + (L.getD (insP at_ L - 1) default).sz)) ||
  (decide (insP at_ L < L.length) && decide ((L.getD (insP at_ L) default).at_ < at_ + n))

def right (size p : Int) : Int := if size < 1 ∨ 1048576 < size ∨ p < 0 ∨ 7 < p then 1 else 0

def mapAtS (L : List Rg) (at_ size p : Int) : List Rg × Int :=
  if right size p ≠ 0 then (L, 1) else
  if at_ < 4096 ∨ at_ % 64 ≠ 0 ∨ 4294967296 - up size < at_ then (L, 1) else
  if meets L at_ (up size) = true then (L, 51) else
  (L.take (insP at_ L) ++ ⟨at_, up size, p, zeros (up size)⟩ :: L.drop (insP at_ L), 0)

def mapS (L : List Rg) (size p : Int) : List Rg × Int × Int :=
  if right size p ≠ 0 then (L, 0, 1) else
  if (gapS L size).2 ≠ 0 then (L, 0, (gapS L size).2) else
  ((mapAtS L (gapS L size).1 size p).1, (gapS L size).1, (mapAtS L (gapS L size).1 size p).2)

/-! ### Unmap, Protect -/
def findS (L : List Rg) (at_ : Int) : Nat := L.findIdx (fun r => r.at_ == at_)

def findI (L : List Rg) (at_ : Int) : Int := if findS L at_ < L.length then findS L at_ else 0
def findE (L : List Rg) (at_ : Int) : Int := if findS L at_ < L.length then 0 else 50

def unmapS (L : List Rg) (at_ : Int) : List Rg × Int :=
  if findS L at_ < L.length then (L.eraseIdx (findS L at_), 0) else (L, 50)

def protectS (L : List Rg) (at_ p : Int) : List Rg × Int :=
  if p < 0 ∨ 7 < p then (L, 1) else
  if findS L at_ < L.length then (L.modify (findS L at_) (fun r => { r with pm := p }), 0) else (L, 50)

/-! ### Reading and writing -/
def inside (at_ : Int) (r : Rg) : Bool := decide (r.at_ ≤ at_) && decide (at_ - r.at_ < r.sz)

/-- Has a permission another one (1, 2, 4, or 0: none)? -/
def has (pm p : Int) : Bool := decide (p = 0) || decide (pm / p % 2 = 1)

/-- The place of the region that has an address. -/
def partK (L : List Rg) (at_ : Int) : Nat := L.findIdx (inside at_)
/-- What is wrong with a range. -/
def partS (L : List Rg) (at_ : Int) (n : Nat) (p : Int) : Int :=
  match L[partK L at_]? with
  | none => 50
  | some r => if r.sz - (at_ - r.at_) < n then 50 else if has r.pm p = false then 52 else 0

theorem partS_none {L : List Rg} {at_ : Int} {n : Nat} {p : Int} (h : L.length ≤ partK L at_) : partS L at_ n p = 50 := by
  unfold partS; rw [List.getElem?_eq_none h]
theorem partS_some {L : List Rg} {at_ : Int} {n : Nat} {p : Int} {r : Rg} (h : L[partK L at_]? = some r) : partS L at_ n p = if r.sz - (at_ - r.at_) < n then 50 else if has r.pm p = false then 52 else 0 := by
  unfold partS; rw [h]

def getS (L : List Rg) (at_ n p : Int) : List UInt8 × Int :=
  if n < 1 ∨ 1048576 < n then ([], 1) else
  if partS L at_ n.toNat p ≠ 0 then ([], partS L at_ n.toNat p) else
  match L[partK L at_]? with
  | none => ([], 50)
  | some r => ((r.bs.drop (at_ - r.at_).toNat).take n.toNat, 0)

/-- A list with a stretch written over. -/
def over (l : List UInt8) (k : Nat) (b : List UInt8) : List UInt8 := l.take k ++ b ++ l.drop (k + b.length)

def setS (L : List Rg) (at_ : Int) (b : List UInt8) (p : Int) : List Rg × Int :=
  if b.length < 1 ∨ 1048576 < b.length then (L, 1) else
  if partS L at_ b.length p ≠ 0 then (L, partS L at_ b.length p) else
  (L.modify (partK L at_) (fun r => { r with bs := over r.bs (at_ - r.at_).toNat b }), 0)

end Go.Proofs.YtmbacegbcccdjaaDoor.Spm

namespace Go.Proofs.YtmbacegbcccdjaaDoor
open Go.RowKit

/-- Block g is a block of cells, of type T, and these are the cells. -/
def Blk (w : World) (g : Nat) (T : TypeId) (cs : Array Value) : Prop := w.heap[g]? = some (.cells cs T (0, 0))

theorem Blk.lt {w : World} {g : Nat} {T : TypeId} {cs : Array Value} (h : Blk w g T cs) : g < w.heap.size := by
  rcases Nat.lt_or_ge g w.heap.size with h' | h'
  · exact h'
  · unfold Blk at h; rw [Array.getElem?_eq_none h'] at h; cases h
theorem Blk.cell {w : World} {g : Nat} {T : TypeId} {cs : Array Value} (h : Blk w g T cs) (k_ : Nat) : w.cell? ⟨g, k_, none⟩ = cs[k_]? := cell_of_row w g k_ _ _ _ h
theorem Blk.free {w : World} {g : Nat} {T : TypeId} {cs : Array Value} (h : Blk w g T cs) (k_ : Nat) : w.frozen? ⟨g, k_, none⟩ = false := frozen_of_row w g k_ _ _ h
theorem Blk.new (w : World) (T : TypeId) (cs : Array Value) : Blk (w.alloc (.cells cs T)) w.heap.size T cs := heap_alloc_new w _
theorem Blk.at_ {w : World} {g : Nat} {T : TypeId} {cs : Array Value} (h : g = w.heap.size) : Blk (w.alloc (.cells cs T)) g T cs := by subst h; exact Blk.new w T cs
theorem Blk.alloc {w : World} {g : Nat} {T : TypeId} {cs : Array Value} (h : Blk w g T cs) (o : Obj) : Blk (w.alloc o) g T cs := by
  unfold Blk; rw [Below.heap_alloc _ _ _ h.lt]; exact h
theorem Blk.drew {w : World} {g : Nat} {T : TypeId} {cs : Array Value} (h : Blk w g T cs) : Blk w.drew g T cs := h
theorem Blk.stay {w w1 : World} {g : Nat} {T : TypeId} {cs : Array Value} (h : Blk w g T cs) {B : Nat} (hb : Below B w w1) (hg : g < B) : Blk w1 g T cs := (hb.block g hg).trans h
theorem Blk.keep {w w1 : World} {g : Nat} {T : TypeId} {cs : Array Value} (h : Blk w g T cs) (hb : Below w.heap.size w w1) : Blk w1 g T cs := h.stay hb h.lt
theorem Blk.other {w : World} {g : Nat} {T : TypeId} {cs : Array Value} (h : Blk w g T cs) {p : Addr} (hp : g ≠ p.block) (v : Value) : Blk (w.setCell p v) g T cs := by
  unfold Blk; rw [Below.heap_setCell _ _ _ _ hp]; exact h
theorem Blk.set {w : World} {g : Nat} {T : TypeId} {cs : Array Value} (h : Blk w g T cs) (k_ : Nat) (v : Value) : Blk (w.setCell ⟨g, k_, none⟩ v) g T (cs.setIfInBounds k_ v) := by
  have hl := h.lt
  unfold Blk at h ⊢
  simp only [World.setCell, Array.getElem?_modify, if_true, h, Option.map_some]
  rfl
theorem Blk.three0 (w : World) (T : TypeId) (cs : Array Value) (o1 o2 : Obj) : Blk (((w.alloc (.cells cs T)).alloc o1).alloc o2) w.heap.size T cs := ((Blk.new _ _ _).alloc _).alloc _
theorem Blk.three1 (w : World) (T : TypeId) (cs : Array Value) (o0 o2 : Obj) : Blk (((w.alloc o0).alloc (.cells cs T)).alloc o2) (w.heap.size + 1) T cs := (Blk.at_ (by simp)).alloc _
theorem Blk.three2 (w : World) (T : TypeId) (cs : Array Value) (o0 o1 : Obj) : Blk (((w.alloc o0).alloc o1).alloc (.cells cs T)) (w.heap.size + 1 + 1) T cs := Blk.at_ (by simp)
theorem below_alloc {B : Nat} {a w : World} (h : Below B a w) (hB : B ≤ a.heap.size) (o : Obj) : Below B a (w.alloc o) := h.alloc (Nat.le_trans hB h.size) o
theorem below_drewN {B : Nat} {a w : World} (h : Below B a w) (n : Nat) : Below B a (w.drewN n) := ⟨h.os, h.tape, h.output, h.size, h.block⟩
end Go.Proofs.YtmbacegbcccdjaaDoor

namespace Go.Proofs.YtmbacegbcccdjaaDoor
open Go.RowKit
set_option linter.unusedVariables false
set_option linter.unusedSimpArgs false

theorem quiet_same {P : Program} {f : FuncId} {args : Array Value} {w : World} {n : Nat} {v : Value} (h : Calls P f args (w.drewN n) fun e w' => e = .returned v ∧ w.drewN n = w') :
    Calls P f args (w.drewN n) fun e w'' => e = .returned v ∧ ∃ m, w'' = w.drewN m := h.mono fun _ _ ⟨he, hm⟩ => ⟨he, n, hm.symm⟩

/-- But for the blocks F what was there is as it was. -/
structure Keeps (F : Nat → Prop) (w w' : World) : Prop where
  os : w'.os = w.os
  tape : w'.tape = w.tape
  output : w'.output = w.output
  size : w.heap.size ≤ w'.heap.size
  block : ∀ k, k < w.heap.size → ¬ F k → w'.heap[k]? = w.heap[k]?

theorem Keeps.refl (F : Nat → Prop) (w : World) : Keeps F w w := ⟨rfl, rfl, rfl, Nat.le_refl _, fun _ _ _ => rfl⟩
theorem Keeps.of_below {F : Nat → Prop} {w w' : World} (h : Below w.heap.size w w') : Keeps F w w' := ⟨h.os, h.tape, h.output, h.size, fun k hk _ => h.block k hk⟩
theorem Keeps.below {F : Nat → Prop} {w w' : World} {B : Nat} (h : Keeps F w w') (hB : B ≤ w.heap.size) (hF : ∀ k, F k → B ≤ k) : Below B w w' := ⟨h.os, h.tape, h.output, h.size, fun k hk => h.block k (by omega) (fun hf => by have := hF k hf; omega)⟩
theorem Keeps.mono {F G : Nat → Prop} {w w' : World} (h : Keeps F w w') (hF : ∀ k, F k → G k) : Keeps G w w' := ⟨h.os, h.tape, h.output, h.size, fun k hk hn => h.block k hk (fun hf => hn (hF k hf))⟩
/-- .. and so on; what is new in between may be written. -/
theorem Keeps.trans {F G : Nat → Prop} {w w1 w2 : World} (h : Keeps F w w1) (k : Keeps G w1 w2) (hG : ∀ i, G i → F i ∨ w.heap.size ≤ i) : Keeps F w w2 :=
  ⟨k.os.trans h.os, k.tape.trans h.tape, k.output.trans h.output, Nat.le_trans h.size k.size, fun i hi hn => (k.block i (Nat.lt_of_lt_of_le hi h.size) (fun hg => by rcases hG i hg with h1 | h1; exact hn h1; omega)).trans (h.block i hi hn)⟩
theorem Keeps.trans' {F : Nat → Prop} {w w1 w2 : World} (h : Keeps F w w1) (k : Keeps F w1 w2) : Keeps F w w2 := h.trans k fun _ h => .inl h
theorem Keeps.drew {F : Nat → Prop} {w w1 : World} (h : Keeps F w w1) : Keeps F w w1.drew := ⟨h.os, h.tape, h.output, h.size, h.block⟩
theorem Keeps.alloc {F : Nat → Prop} {w w1 : World} (h : Keeps F w w1) (o : Obj) : Keeps F w (w1.alloc o) :=
  ⟨h.os, h.tape, h.output, by have := h.size; simp; omega, fun k hk hn => (Below.heap_alloc _ _ _ (Nat.lt_of_lt_of_le hk h.size)).trans (h.block k hk hn)⟩
theorem Keeps.setCell {F : Nat → Prop} {w w1 : World} (h : Keeps F w w1) {p : Addr} (hp : F p.block ∨ w.heap.size ≤ p.block) (v : Value) : Keeps F w (w1.setCell p v) :=
  ⟨h.os, h.tape, h.output, by simpa [World.setCell] using h.size, fun k hk hn => (Below.heap_setCell _ _ _ _ (fun e => by subst e; rcases hp with hp | hp; exact hn hp; omega)).trans (h.block k hk hn)⟩
theorem Blk.keeps {F : Nat → Prop} {w w1 : World} {g : Nat} {T : TypeId} {cs : Array Value} (h : Blk w g T cs) (hk : Keeps F w w1) (hg : ¬ F g) : Blk w1 g T cs := (hk.block g h.lt hg).trans h

theorem owns_block {w w1 : World} {base : Nat} {e : TypeId} {size n : Nat} {v : Value} {xs : List Value} (h : w.ownsRow base e size v n xs) (hk : ∀ g, v.ownBlock = some g → w1.heap[g]? = w.heap[g]?) : w1.ownsRow base e size v n xs := by
  refine ⟨h.1, ?_⟩
  rcases h.2 with h1 | ⟨g, cap, cur, hv, hb, hg, r⟩
  · exact .inl h1
  · exact .inr ⟨g, cap, cur, hv, hb, by rw [hk g (by rw [hv]; rfl)]; exact hg, r⟩
theorem owns_mono {w : World} {base b' : Nat} {e : TypeId} {size n : Nat} {v : Value} {xs : List Value} (h : w.ownsRow base e size v n xs) (hb' : b' ≤ base) : w.ownsRow b' e size v n xs := by
  refine ⟨h.1, ?_⟩
  rcases h.2 with h1 | ⟨g, cap, cur, hv, hb, r⟩
  · exact .inl h1
  · exact .inr ⟨g, cap, cur, hv, Nat.le_trans hb' hb, r⟩
theorem owns_base {w : World} {base : Nat} {e : TypeId} {size n : Nat} {v : Value} {xs : List Value} (h : w.ownsRow base e size v n xs) {b' : Nat} (hb : ∀ g, v.ownBlock = some g → b' ≤ g) : w.ownsRow b' e size v n xs := by
  refine ⟨h.1, ?_⟩
  rcases h.2 with h1 | ⟨g, cap, cur, hv, hbg, r⟩
  · exact .inl h1
  · exact .inr ⟨g, cap, cur, hv, hb g (by rw [hv]; rfl), r⟩

/-- A byte as a cell. -/
def byC (b : UInt8) : Value := .int .u8 b.toNat
theorem byC_one (l : List UInt8) : ∀ u ∈ l.map byC, u.oneCell' = true := by
  intro u hu
  obtain ⟨b, _, rfl⟩ := List.mem_map.1 hu
  rfl

/-- A slice of bytes, as a row of its own. -/
def Bys (w : World) (base : Nat) (v : Value) (l : List UInt8) : Prop := w.ownsRow base 5 1 v l.length (l.map byC)

/-- A region, the block of its bytes, and how many may stand there. -/
abbrev RowP := Spm.Rg × Nat × Nat
def rgC (q : RowP) : List Value := [.int .i64 q.1.at_, .int .i64 q.1.sz, .int .i64 q.1.pm, .slice (some ⟨q.2.1, 0, none⟩) q.1.bs.length q.2.2]
def byV (q : RowP) : Value := .slice (some ⟨q.2.1, 0, none⟩) q.1.bs.length q.2.2

def foot (a : Nat) (v : Value) (Q : List RowP) : List Nat := a :: (v.ownBlock.toList ++ Q.map (·.2.1))

/-- A space (of type ts, its rows of type tr) stands at block a: v is its slice, Q its regions. -/
structure Spc (ts tr : TypeId) (w : World) (a : Nat) (v : Value) (Q : List RowP) : Prop where
  box : Blk w a ts #[v]
  row : w.ownsRow 0 tr 4 v Q.length (Q.flatMap rgC)
  each : ∀ q ∈ Q, Bys w 0 (byV q) q.1.bs
  nd : (foot a v Q).Nodup

def SpcAt (ts tr : TypeId) (w : World) (a : Nat) (F : Nat → Prop) (L : List Spm.Rg) : Prop := ∃ v Q, Spc ts tr w a v Q ∧ Q.map (·.1) = L ∧ ∀ k ∈ foot a v Q, F k

theorem rows_get (Q : List RowP) : ∀ (i j : Nat) (q : RowP) (u : Value), Q[i]? = some q → (rgC q)[j]? = some u → (Q.flatMap rgC)[i * 4 + j]? = some u := by
  induction Q with
  | nil => intro i j q u h; simp at h
  | cons x Q ih =>
    intro i j q u h hu
    have hl : (rgC x).length = 4 := rfl
    rw [List.flatMap_cons]
    cases i with
    | zero =>
      simp at h; subst h
      rw [List.getElem?_append_left (by have := (List.getElem?_eq_some_iff.1 hu).1; omega)]
      simpa using hu
    | succ i =>
      rw [List.getElem?_append_right (by omega), hl, show (i + 1) * 4 + j - 4 = i * 4 + j by omega]
      exact ih i j q u (by simpa using h) hu
theorem rows_len (Q : List RowP) : (Q.flatMap rgC).length = Q.length * 4 := by
  induction Q with
  | nil => rfl
  | cons x Q ih => rw [List.flatMap_cons, List.length_append, ih]; simp [rgC]; omega
theorem rows_take (Q : List RowP) (k : Nat) : (Q.flatMap rgC).take (k * 4) = (Q.take k).flatMap rgC := by
  induction Q generalizing k with
  | nil => simp
  | cons x Q ih =>
    cases k with
    | zero => simp
    | succ k =>
      have hl : (rgC x).length = 4 := rfl
      rw [List.flatMap_cons, List.take_succ_cons, List.flatMap_cons, show (k + 1) * 4 = (rgC x).length + k * 4 by omega, List.take_length_add_append, ih]
theorem rows_drop (Q : List RowP) (k : Nat) : (Q.flatMap rgC).drop (k * 4) = (Q.drop k).flatMap rgC := by
  induction Q generalizing k with
  | nil => simp
  | cons x Q ih =>
    cases k with
    | zero => simp
    | succ k =>
      have hl : (rgC x).length = 4 := rfl
      rw [List.flatMap_cons, List.drop_succ_cons, show (k + 1) * 4 = (rgC x).length + k * 4 by omega, List.drop_length_add_append, ih]

section
variable {ts tr : TypeId} {w w' : World} {a : Nat} {v : Value} {Q : List RowP} {F G : Nat → Prop} {L : List Spm.Rg}

theorem foot_a : a ∈ foot a v Q := List.mem_cons_self
theorem foot_v {g : Nat} (h : v.ownBlock = some g) : g ∈ foot a v Q := by unfold foot; rw [h]; simp
theorem foot_q {q : RowP} (h : q ∈ Q) : q.2.1 ∈ foot a v Q := by
  unfold foot
  refine List.mem_cons_of_mem _ (List.mem_append_right _ ?_)
  exact List.mem_map.2 ⟨q, h, rfl⟩

theorem Spc.keep (h : Spc ts tr w a v Q) (hk : ∀ k ∈ foot a v Q, w'.heap[k]? = w.heap[k]?) : Spc ts tr w' a v Q :=
  ⟨(hk a foot_a).trans h.box, owns_block h.row (fun g hg => hk g (foot_v hg)), fun q hq => owns_block (h.each q hq) (fun g hg => hk g (by simp [byV, Value.ownBlock] at hg; subst hg; exact foot_q hq)), h.nd⟩
theorem Spc.lt (h : Spc ts tr w a v Q) : ∀ k ∈ foot a v Q, k < w.heap.size := by
  intro k hk
  unfold foot at hk
  rcases List.mem_cons.1 hk with rfl | hk
  · exact h.box.lt
  · rcases List.mem_append.1 hk with hk | hk
    · cases hv : v.ownBlock with
      | none => rw [hv] at hk; simp at hk
      | some g => rw [hv] at hk; simp at hk; subst hk; exact (h.row.lt _ hv).2
    · obtain ⟨q, hq, rfl⟩ := List.mem_map.1 hk
      exact ((h.each q hq).lt _ rfl).2
theorem SpcAt.keep (h : SpcAt ts tr w a F L) (hk : ∀ k, F k → k < w.heap.size → w'.heap[k]? = w.heap[k]?) : SpcAt ts tr w' a F L := by
  obtain ⟨v, Q, hs, hL, hF⟩ := h
  exact ⟨v, Q, hs.keep (fun k hm => hk k (hF k hm) (hs.lt k hm)), hL, hF⟩
theorem SpcAt.stay (h : SpcAt ts tr w a F L) (hb : Below w.heap.size w w') : SpcAt ts tr w' a F L := h.keep fun k _ hk => hb.block k hk
theorem SpcAt.keeps (h : SpcAt ts tr w a F L) (hb : Keeps G w w') (hd : ∀ k, F k → ¬ G k) : SpcAt ts tr w' a F L := h.keep fun k hf hk => hb.block k hk (hd k hf)
theorem SpcAt.mono (h : SpcAt ts tr w a F L) (hG : ∀ k, F k → k < w.heap.size → G k) : SpcAt ts tr w a G L := by
  obtain ⟨v, Q, hs, hL, hF⟩ := h
  exact ⟨v, Q, hs, hL, fun k hk => hG k (hF k hk) (hs.lt k hk)⟩
theorem SpcAt.lt (h : SpcAt ts tr w a F L) : a < w.heap.size := by
  obtain ⟨v, Q, hs, hL, hF⟩ := h
  exact hs.box.lt
theorem SpcAt.at_ (h : SpcAt ts tr w a F L) : F a := by
  obtain ⟨v, Q, hs, hL, hF⟩ := h
  exact hF a foot_a

/-- What a walk reads: the box's one cell; the rows' cells. -/
theorem Spc.cells (h : Spc ts tr w a v Q) : ∃ A cap, v = .slice A Q.length cap ∧ w.cell? ⟨a, 0, none⟩ = some (.slice A Q.length cap) ∧ Q.length ≤ cap ∧ cap ≤ maxLen ∧
    ∀ i q, Q[i]? = some q → ∃ g, A = some ⟨g, 0, none⟩ ∧ g < w.heap.size ∧ ∀ j u, (rgC q)[j]? = some u → w.cell? ⟨g, i * 4 + j, none⟩ = some u := by
  have hc := h.box.cell 0
  rcases h.row.2 with ⟨hv, hn⟩ | ⟨g, cap, cur, hv, hb, hg, hl, hm, hs, ht⟩
  · refine ⟨none, 0, by rw [hv, hn], by rw [hc, hv, hn]; rfl, by omega, Nat.zero_le _, fun i q hq => ?_⟩
    have : Q = [] := List.eq_nil_of_length_eq_zero hn
    subst this
    simp at hq
  · refine ⟨some ⟨g, 0, none⟩, cap, hv, by rw [hc, hv]; rfl, hl, hm, fun i q hq => ⟨g, rfl, (Array.getElem?_eq_some_iff.1 hg).1, fun j u hu => ?_⟩⟩
    have h1 := h.row.cells (g := g) (by rw [hv]; rfl) _ _ (rows_get Q i j q u hq hu)
    rwa [Addr.add_lit, Nat.zero_add] at h1
theorem Spc.bys (h : Spc ts tr w a v Q) {q : RowP} (hq : q ∈ Q) : q.2.1 < w.heap.size ∧ q.1.bs.length ≤ q.2.2 ∧ q.2.2 ≤ maxLen ∧ ∀ j b, q.1.bs[j]? = some b → w.cell? ⟨q.2.1, j, none⟩ = some (byC b) := by
  have hr := h.each q hq
  rcases hr.2 with ⟨hv, hn⟩ | ⟨g, cap, cur, hv, hb, hg, hl, hm, hs, ht⟩
  · simp [byV] at hv
  · simp only [byV, Value.slice.injEq, Option.some.injEq, Addr.mk.injEq] at hv
    obtain ⟨⟨hg1, _⟩, _, hc⟩ := hv
    refine ⟨(hr.lt _ rfl).2, by omega, by omega, fun j b hj => ?_⟩
    have h1 := hr.cells (g := q.2.1) rfl j (byC b) (by rw [List.getElem?_map, hj]; rfl)
    rwa [Addr.add_lit, Nat.zero_add] at h1
end
end Go.Proofs.YtmbacegbcccdjaaDoor

namespace Go.Proofs.YtmbacegbcccdjaaDoor
open Go.RowKit Spm
set_option linter.unusedVariables false
set_option linter.unusedSimpArgs false

theorem findIdx_hit {α : Type} {p : α → Bool} {L : List α} {k : Nat} {x : α} (h : k ≤ L.findIdx p) (hx : L[k]? = some x) (hp : p x = true) : L.findIdx p = k := by
  have hl := (List.getElem?_eq_some_iff.1 hx).1
  have he := (List.getElem?_eq_some_iff.1 hx).2
  refine (List.findIdx_eq hl).2 ⟨by rw [he]; exact hp, fun j hj => ?_⟩
  exact (List.not_of_lt_findIdx (by omega))
theorem findIdx_miss {α : Type} {p : α → Bool} {L : List α} {k : Nat} {x : α} (h : k ≤ L.findIdx p) (hx : L[k]? = some x) (hp : p x = false) : k + 1 ≤ L.findIdx p := by
  have hl := (List.getElem?_eq_some_iff.1 hx).1
  have he := (List.getElem?_eq_some_iff.1 hx).2
  rcases Nat.lt_or_ge k (L.findIdx p) with h1 | h1
  · exact h1
  · have : L.findIdx p = k := by omega
    have := ((List.findIdx_eq hl).1 this).1
    rw [he, hp] at this
    cases this

theorem ret_int {k : IntKind} {a b : Int} (h : a = b) : Ending.returned (.int k a) = .returned (.int k b) := by rw [h]
theorem ret_int2 {k j : IntKind} {a b c d : Int} (h : a = b) (h' : c = d) : Ending.returned (.tuple #[.int k a, .int j c]) = .returned (.tuple #[.int k b, .int j d]) := by rw [h, h']

end Go.Proofs.YtmbacegbcccdjaaDoor

namespace Go.Proofs.YtmbacegbcccdjaaDoor
open Go.RowKit Spm
set_option linter.unusedVariables false
set_option linter.unusedSimpArgs false

theorem max_if (a b : Int) : (if a < b then b else a) = max a b := by split <;> omega
theorem gapGo_cons (n : Int) (r : Rg) (L : List Rg) (x : Int) : gapGo n (r :: L) x = if n ≤ r.at_ - x then x else gapGo n L (max x (r.at_ + r.sz)) := rfl
theorem gapGo_at {n : Int} {L : List Rg} {k : Nat} {r : Rg} {x y : Int} (h : gapGo n (L.drop k) x = y) (hr : L[k]? = some r) : (n ≤ r.at_ - x → y = x) ∧ (¬ n ≤ r.at_ - x → gapGo n (L.drop (k + 1)) (max x (r.at_ + r.sz)) = y) := by
  have hl := (List.getElem?_eq_some_iff.1 hr).1
  have he := (List.getElem?_eq_some_iff.1 hr).2
  rw [List.drop_eq_getElem_cons hl, he, gapGo_cons] at h
  exact ⟨fun hc => by rw [if_pos hc] at h; exact h.symm, fun hc => by rw [if_neg hc] at h; exact h⟩

end Go.Proofs.YtmbacegbcccdjaaDoor

namespace Go.Proofs.YtmbacegbcccdjaaDoor
open Go.RowKit Spm
set_option linter.unusedVariables false
set_option linter.unusedSimpArgs false

/-- A range's slice. -/
def partV (Q : List RowP) (at_ : Int) (n : Nat) (p : Int) : Value :=
  match Q[partK (Q.map (·.1)) at_]? with
  | none => .slice none 0 0
  | some q => if partS (Q.map (·.1)) at_ n p = 0 then .slice (some ⟨q.2.1, (at_ - q.1.at_).toNat, none⟩) n (q.2.2 - (at_ - q.1.at_).toNat) else .slice none 0 0

theorem partV_none {Q : List RowP} {at_ : Int} {n : Nat} {p : Int} (h : Q.length ≤ partK (Q.map (·.1)) at_) : partV Q at_ n p = .slice none 0 0 := by
  unfold partV; rw [List.getElem?_eq_none h]
theorem partV_bad {Q : List RowP} {at_ : Int} {n : Nat} {p : Int} (h : partS (Q.map (·.1)) at_ n p ≠ 0) : partV Q at_ n p = .slice none 0 0 := by
  unfold partV; split
  · rfl
  · exact if_neg h
theorem partV_ok {Q : List RowP} {at_ : Int} {n : Nat} {p : Int} {q : RowP} (hq : Q[partK (Q.map (·.1)) at_]? = some q) (h : partS (Q.map (·.1)) at_ n p = 0) :
    partV Q at_ n p = .slice (some ⟨q.2.1, (at_ - q.1.at_).toNat, none⟩) n (q.2.2 - (at_ - q.1.at_).toNat) := by
  unfold partV; rw [hq]; exact if_pos h

/-- A permission that may be asked for. -/
def OneP (p : Int) : Prop := p = 0 ∨ p = 1 ∨ p = 2 ∨ p = 4
theorem ret_si {x y : Value} {k : IntKind} {c d : Int} (h : x = y) (h' : c = d) : Ending.returned (.tuple #[y, .int k d]) = .returned (.tuple #[x, .int k c]) := by rw [h, h']
theorem has_bits (pm p : Int) (h0 : 0 ≤ pm) (h7 : pm ≤ 7) (hp : OneP p) : (bits BinOp.and IntKind.i64 pm p == p) = has pm p := by
  have h : pm = 0 ∨ pm = 1 ∨ pm = 2 ∨ pm = 3 ∨ pm = 4 ∨ pm = 5 ∨ pm = 6 ∨ pm = 7 := by omega
  rcases h with rfl | rfl | rfl | rfl | rfl | rfl | rfl | rfl <;> rcases hp with rfl | rfl | rfl | rfl <;> decide +kernel

theorem inside_ff {at_ : Int} {r : Rg} (h : at_ < r.at_) : inside at_ r = false := by unfold inside; simp; omega
theorem inside_ft {at_ : Int} {r : Rg} (h : r.sz ≤ at_ - r.at_) : inside at_ r = false := by unfold inside; simp; omega
theorem inside_tt {at_ : Int} {r : Rg} (h : r.at_ ≤ at_) (h2 : at_ - r.at_ < r.sz) : inside at_ r = true := by unfold inside; simp; omega

end Go.Proofs.YtmbacegbcccdjaaDoor
