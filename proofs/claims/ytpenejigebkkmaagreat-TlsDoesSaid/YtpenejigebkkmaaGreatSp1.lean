/-
  The plain law of a space (layer 5), no Go in sight: a list of regions by their addresses; what each act does to it.
  Blocks of cells, known whole: what an allocation, a draw, a store, a callee leaves of them.
  A space in memory (layer 5): a block with the slice of regions, the row of regions, each region's bytes; what keeps it.
  Layer 5: what up, right, find, Gap of the program compute.
  Layer 5: what Gap of the program computes.
  Layer 5: what part of the program computes: where a range stands.
  Conditions: none. (My own text.)
-/
import Derived.Below
import Derived.Test.YtpenejigebkkmaaGreatFrame
import Derived.Deep.Draws
import Derived.Test.YtpenejigebkkmaaGreatCalm
import Derived.Laws.OwnMore
import Derived.IntWalk
import Derived.Deep.QuietTactic
import Derived.BigQuiet
import Derived.Laws.BitsAllLaws
namespace Go.Proofs.YtpenejigebkkmaaGreat.Spm

/-- A region, and what stands in it. -/
structure Rg where
  at_ : Int
  sz : Int
  pm : Int
  bs : List UInt8
deriving DecidableEq, Inhabited

def up (n : Int) : Int := (n + 63) / 64 * 64

/-- A region as it may be. -/
structure RgOk (r : Rg) : Prop where
  lo : 4096 ≤ r.at_
  al : r.at_ % 64 = 0
  sal : r.sz % 64 = 0
  slo : 64 ≤ r.sz
  shi : r.sz ≤ 1048576
  hi : r.at_ + r.sz ≤ 4294967296
  p0 : 0 ≤ r.pm
  p7 : r.pm ≤ 7
  len : (r.bs.length : Int) = r.sz

/-- One behind the other, apart. -/
def Apart (a b : Rg) : Prop := a.at_ + a.sz ≤ b.at_

structure Ok (L : List Rg) : Prop where
  each : ∀ r ∈ L, RgOk r
  srt : L.Pairwise Apart

theorem up_ge (n : Int) (h : 1 ≤ n) : n ≤ up n ∧ up n % 64 = 0 ∧ 64 ≤ up n ∧ up n < n + 64 := by unfold up; omega
theorem up_le (n : Int) (h : 1 ≤ n) (h2 : n ≤ 1048576) : up n ≤ 1048576 := by unfold up; omega
theorem up_of_al (n : Int) (h : n % 64 = 0) : up n = n := by unfold up; omega

/-! ### Bounds on how many there are -/
theorem len_bound : ∀ (L : List Rg) (lo : Int), (∀ r ∈ L, RgOk r) → L.Pairwise Apart → (∀ r ∈ L, lo ≤ r.at_) → lo ≤ 4294967296 → lo + 64 * (L.length : Int) ≤ 4294967296
  | [], lo, _, _, _, h => by simpa using h
  | r :: L, lo, h1, h2, h3, h4 => by
    have hr := h1 r (by simp)
    have hlo := h3 r (by simp)
    obtain ⟨ha, hb⟩ := List.pairwise_cons.1 h2
    have hs := hr.slo; have hh := hr.hi
    have := len_bound L (r.at_ + r.sz) (fun x hx => h1 x (by simp [hx])) hb (fun x hx => ha x hx) hh
    simp only [List.length_cons]
    omega

theorem Ok.len {L : List Rg} (h : Ok L) : (L.length : Int) ≤ 67108864 := by
  have := len_bound L 4096 h.each h.srt (fun r hr => (h.each r hr).lo) (by omega)
  omega

theorem Ok.nil : Ok [] := ⟨by simp, by simp⟩

/-! ### Gap -/
def gapGo (n : Int) : List Rg → Int → Int
  | [], at_ => at_
  | r :: L, at_ => if n ≤ r.at_ - at_ then at_ else gapGo n L (max at_ (r.at_ + r.sz))

def gapS (L : List Rg) (size : Int) : Int × Int :=
  if size < 1 ∨ 1048576 < size then (0, 1) else
  if 4294967296 - up size < gapGo (up size) L 4096 then (0, 3) else (gapGo (up size) L 4096, 0)

theorem gapGo_bound (n : Int) : ∀ (L : List Rg) (at_ : Int), (∀ r ∈ L, RgOk r) → at_ ≤ 4294967296 → at_ ≤ gapGo n L at_ ∧ gapGo n L at_ ≤ 4294967296
  | [], at_, _, h => ⟨Int.le_refl _, h⟩
  | r :: L, at_, h1, h => by
    unfold gapGo
    split
    · exact ⟨Int.le_refl _, h⟩
    · have hr := (h1 r (by simp)).hi
      have := gapGo_bound n L (max at_ (r.at_ + r.sz)) (fun x hx => h1 x (by simp [hx])) (by omega)
      omega

theorem gapGo_al (n : Int) : ∀ (L : List Rg) (at_ : Int), (∀ r ∈ L, RgOk r) → at_ % 64 = 0 → gapGo n L at_ % 64 = 0
  | [], at_, _, h => h
  | r :: L, at_, h1, h => by
    unfold gapGo
    split
    · exact h
    · have hr := h1 r (by simp)
      have a1 := hr.al; have a2 := hr.sal
      exact gapGo_al n L _ (fun x hx => h1 x (by simp [hx])) (by omega)

/-- What the walk finds is free: each region ends at or before it, or begins behind what is wanted. -/
theorem gapGo_free (n : Int) (hn : 0 < n) : ∀ (L : List Rg) (at_ : Int), (∀ r ∈ L, RgOk r) → L.Pairwise Apart →
    ∀ r ∈ L, r.at_ + r.sz ≤ gapGo n L at_ ∨ gapGo n L at_ + n ≤ r.at_
  | [], _, _, _ => by simp
  | r :: L, at_, h1, h2 => by
    obtain ⟨ha, hb⟩ := List.pairwise_cons.1 h2
    have hr := h1 r (by simp)
    have e1 : ∀ x ∈ L, RgOk x := fun x hx => h1 x (by simp [hx])
    unfold gapGo
    split
    · rename_i hc
      intro x hx
      rcases List.mem_cons.1 hx with rfl | hx
      · right; omega
      · have := ha x hx
        have := hr.slo
        unfold Apart at *
        right; omega
    · intro x hx
      have ih := gapGo_free n hn L (max at_ (r.at_ + r.sz)) e1 hb
      rcases List.mem_cons.1 hx with rfl | hx
      · left
        by_cases hle : max at_ (x.at_ + x.sz) ≤ 4294967296
        · have := (gapGo_bound n L _ e1 hle).1
          omega
        · exact Int.le_trans (by omega) (gapGo_ge n L _)
      · exact ih x hx
where
  gapGo_ge (n : Int) : ∀ (L : List Rg) (at_ : Int), at_ ≤ gapGo n L at_
    | [], at_ => Int.le_refl _
    | r :: L, at_ => by
      unfold gapGo
      split
      · exact Int.le_refl _
      · have := gapGo_ge n L (max at_ (r.at_ + r.sz))
        omega

/-- .. and it is the least such place: whatever lies ahead of it, from where one began, meets a region. -/
theorem gapGo_least (n : Int) : ∀ (L : List Rg) (at_ x : Int), at_ ≤ x → x < gapGo n L at_ → ∃ r ∈ L, x < r.at_ + r.sz ∧ r.at_ < x + n
  | [], at_, x, h1, h2 => by unfold gapGo at h2; omega
  | r :: L, at_, x, h1, h2 => by
    unfold gapGo at h2
    split at h2
    · omega
    · by_cases hx : x < max at_ (r.at_ + r.sz)
      · refine ⟨r, by simp, ?_, ?_⟩ <;> omega
      · obtain ⟨y, hy, h3⟩ := gapGo_least n L _ x (by omega) h2
        exact ⟨y, by simp [hy], h3⟩

/-! ### MapAt -/
/-- Before which one a region at an address comes. -/
def insP (at_ : Int) : List Rg → Nat
  | [] => 0
  | r :: L => if r.at_ < at_ then insP at_ L + 1 else 0

theorem insP_le (at_ : Int) : ∀ L : List Rg, insP at_ L ≤ L.length
  | [] => Nat.le_refl _
  | r :: L => by
    have := insP_le at_ L
    unfold insP
    split <;> simp <;> omega

/-- So many, all of which lie before; and the next one, if there is one, does not: that is the place. -/
theorem insP_of (at_ : Int) : ∀ (L : List Rg) (k : Nat), k ≤ L.length → (∀ i r, L[i]? = some r → i < k → r.at_ < at_) → (∀ r, L[k]? = some r → ¬ r.at_ < at_) → insP at_ L = k
  | [], k, hk, _, _ => by simp at hk; subst hk; rfl
  | r :: L, 0, _, _, h2 => by
    have := h2 r rfl
    simp only [insP, if_neg this]
  | r :: L, k + 1, hk, h1, h2 => by
    have h0 := h1 0 r rfl (by omega)
    have := insP_of at_ L k (by simpa using hk) (fun i x hx hi => h1 (i + 1) x hx (by omega)) (fun x hx => h2 x hx)
    simp only [insP, if_pos h0, this]

theorem insP_before (at_ : Int) : ∀ (L : List Rg) (i : Nat) (x : Rg), L[i]? = some x → i < insP at_ L → x.at_ < at_
  | r :: L, 0, x, h, h2 => by
    simp at h; subst h
    unfold insP at h2
    split at h2
    · assumption
    · omega
  | r :: L, i + 1, x, h, h2 => by
    unfold insP at h2
    split at h2
    · exact insP_before at_ L i x (by simpa using h) (by omega)
    · omega

theorem insP_stop (at_ : Int) : ∀ (L : List Rg) (x : Rg), L[insP at_ L]? = some x → at_ ≤ x.at_
  | r :: L, x, h => by
    by_cases hc : r.at_ < at_
    · have e : insP at_ (r :: L) = insP at_ L + 1 := by simp only [insP, if_pos hc]
      rw [e] at h
      exact insP_stop at_ L x (by simpa using h)
    · have e : insP at_ (r :: L) = 0 := by simp only [insP, if_neg hc]
      rw [e] at h
      simp at h; subst h
      omega

def zeros (n : Int) : List UInt8 := List.replicate n.toNat 0

/-- Would it meet one that is there? -/
def meets (L : List Rg) (at_ n : Int) : Bool :=
  (decide (0 < insP at_ L) && decide (at_ < (L.getD (insP at_ L - 1) default).at_ + (L.getD (insP at_ L - 1) default).sz)) ||
  (decide (insP at_ L < L.length) && decide ((L.getD (insP at_ L) default).at_ < at_ + n))

def right (size p : Int) : Int := if size < 1 ∨ 1048576 < size ∨ p < 0 ∨ 7 < p then 1 else 0

def mapAtS (L : List Rg) (at_ size p : Int) : List Rg × Int :=
  if right size p ≠ 0 then (L, 1) else
  if at_ < 4096 ∨ at_ % 64 ≠ 0 ∨ 4294967296 - up size < at_ then (L, 1) else
  if meets L at_ (up size) = true then (L, 51) else
  (L.take (insP at_ L) ++ ⟨at_, up size, p, zeros (up size)⟩ :: L.drop (insP at_ L), 0)

def mapS (L : List Rg) (size p : Int) : List Rg × Int × Int :=
  if right size p ≠ 0 then (L, 0, 1) else
  if (gapS L size).2 ≠ 0 then (L, 0, (gapS L size).2) else
  ((mapAtS L (gapS L size).1 size p).1, (gapS L size).1, (mapAtS L (gapS L size).1 size p).2)

/-! ### Unmap, Protect -/
def findS (L : List Rg) (at_ : Int) : Nat := L.findIdx (fun r => r.at_ == at_)

def findI (L : List Rg) (at_ : Int) : Int := if findS L at_ < L.length then findS L at_ else 0
def findE (L : List Rg) (at_ : Int) : Int := if findS L at_ < L.length then 0 else 50

def unmapS (L : List Rg) (at_ : Int) : List Rg × Int :=
  if findS L at_ < L.length then (L.eraseIdx (findS L at_), 0) else (L, 50)

def protectS (L : List Rg) (at_ p : Int) : List Rg × Int :=
  if p < 0 ∨ 7 < p then (L, 1) else
  if findS L at_ < L.length then (L.modify (findS L at_) (fun r => { r with pm := p }), 0) else (L, 50)

/-! ### Reading and writing -/
def inside (at_ : Int) (r : Rg) : Bool := decide (r.at_ ≤ at_) && decide (at_ - r.at_ < r.sz)

/-- Has a permission another one (1, 2, 4, or 0: none)? -/
def has (pm p : Int) : Bool := decide (p = 0) || decide (pm / p % 2 = 1)

/-- The place of the region that has an address. -/
def partK (L : List Rg) (at_ : Int) : Nat := L.findIdx (inside at_)
/-- What is wrong with a range. -/
def partS (L : List Rg) (at_ : Int) (n : Nat) (p : Int) : Int :=
  match L[partK L at_]? with
  | none => 50
  | some r => if r.sz - (at_ - r.at_) < n then 50 else if has r.pm p = false then 52 else 0

theorem partS_none {L : List Rg} {at_ : Int} {n : Nat} {p : Int} (h : L.length ≤ partK L at_) : partS L at_ n p = 50 := by
  unfold partS; rw [List.getElem?_eq_none h]
theorem partS_some {L : List Rg} {at_ : Int} {n : Nat} {p : Int} {r : Rg} (h : L[partK L at_]? = some r) : partS L at_ n p = if r.sz - (at_ - r.at_) < n then 50 else if has r.pm p = false then 52 else 0 := by
  unfold partS; rw [h]

def getS (L : List Rg) (at_ n p : Int) : List UInt8 × Int :=
  if n < 1 ∨ 1048576 < n then ([], 1) else
  if partS L at_ n.toNat p ≠ 0 then ([], partS L at_ n.toNat p) else
  match L[partK L at_]? with
  | none => ([], 50)
  | some r => ((r.bs.drop (at_ - r.at_).toNat).take n.toNat, 0)

/-- A list with a stretch written over. -/
def over (l : List UInt8) (k : Nat) (b : List UInt8) : List UInt8 := l.take k ++ b ++ l.drop (k + b.length)

def setS (L : List Rg) (at_ : Int) (b : List UInt8) (p : Int) : List Rg × Int :=
  if b.length < 1 ∨ 1048576 < b.length then (L, 1) else
  if partS L at_ b.length p ≠ 0 then (L, partS L at_ b.length p) else
  (L.modify (partK L at_) (fun r => { r with bs := over r.bs (at_ - r.at_).toNat b }), 0)

end Go.Proofs.YtpenejigebkkmaaGreat.Spm

namespace Go.Proofs.YtpenejigebkkmaaGreat
open Go.RowKit

/-- Block g is a block of cells, of type T, and these are the cells. -/
def Blk (w : World) (g : Nat) (T : TypeId) (cs : Array Value) : Prop := w.heap[g]? = some (.cells cs T (0, 0))

theorem Blk.lt {w : World} {g : Nat} {T : TypeId} {cs : Array Value} (h : Blk w g T cs) : g < w.heap.size := by
  rcases Nat.lt_or_ge g w.heap.size with h' | h'
  · exact h'
  · unfold Blk at h; rw [Array.getElem?_eq_none h'] at h; cases h
theorem Blk.cell {w : World} {g : Nat} {T : TypeId} {cs : Array Value} (h : Blk w g T cs) (k_ : Nat) : w.cell? ⟨g, k_, none⟩ = cs[k_]? := cell_of_row w g k_ _ _ _ h
theorem Blk.free {w : World} {g : Nat} {T : TypeId} {cs : Array Value} (h : Blk w g T cs) (k_ : Nat) : w.frozen? ⟨g, k_, none⟩ = false := frozen_of_row w g k_ _ _ h
theorem Blk.new (w : World) (T : TypeId) (cs : Array Value) : Blk (w.alloc (.cells cs T)) w.heap.size T cs := heap_alloc_new w _
theorem Blk.at_ {w : World} {g : Nat} {T : TypeId} {cs : Array Value} (h : g = w.heap.size) : Blk (w.alloc (.cells cs T)) g T cs := by subst h; exact Blk.new w T cs
theorem Blk.alloc {w : World} {g : Nat} {T : TypeId} {cs : Array Value} (h : Blk w g T cs) (o : Obj) : Blk (w.alloc o) g T cs := by
  unfold Blk; rw [Below.heap_alloc _ _ _ h.lt]; exact h
theorem Blk.drew {w : World} {g : Nat} {T : TypeId} {cs : Array Value} (h : Blk w g T cs) : Blk w.drew g T cs := h
theorem Blk.stay {w w1 : World} {g : Nat} {T : TypeId} {cs : Array Value} (h : Blk w g T cs) {B : Nat} (hb : Below B w w1) (hg : g < B) : Blk w1 g T cs := (hb.block g hg).trans h
theorem Blk.keep {w w1 : World} {g : Nat} {T : TypeId} {cs : Array Value} (h : Blk w g T cs) (hb : Below w.heap.size w w1) : Blk w1 g T cs := h.stay hb h.lt
theorem Blk.other {w : World} {g : Nat} {T : TypeId} {cs : Array Value} (h : Blk w g T cs) {p : Addr} (hp : g ≠ p.block) (v : Value) : Blk (w.setCell p v) g T cs := by
  unfold Blk; rw [Below.heap_setCell _ _ _ _ hp]; exact h
theorem Blk.set {w : World} {g : Nat} {T : TypeId} {cs : Array Value} (h : Blk w g T cs) (k_ : Nat) (v : Value) : Blk (w.setCell ⟨g, k_, none⟩ v) g T (cs.setIfInBounds k_ v) := by
  have hl := h.lt
  unfold Blk at h ⊢
  simp only [World.setCell, Array.getElem?_modify, if_true, h, Option.map_some]
  rfl
theorem Blk.three0 (w : World) (T : TypeId) (cs : Array Value) (o1 o2 : Obj) : Blk (((w.alloc (.cells cs T)).alloc o1).alloc o2) w.heap.size T cs := ((Blk.new _ _ _).alloc _).alloc _
theorem Blk.three1 (w : World) (T : TypeId) (cs : Array Value) (o0 o2 : Obj) : Blk (((w.alloc o0).alloc (.cells cs T)).alloc o2) (w.heap.size + 1) T cs := (Blk.at_ (by simp)).alloc _
theorem Blk.three2 (w : World) (T : TypeId) (cs : Array Value) (o0 o1 : Obj) : Blk (((w.alloc o0).alloc o1).alloc (.cells cs T)) (w.heap.size + 1 + 1) T cs := Blk.at_ (by simp)
theorem below_alloc {B : Nat} {a w : World} (h : Below B a w) (hB : B ≤ a.heap.size) (o : Obj) : Below B a (w.alloc o) := h.alloc (Nat.le_trans hB h.size) o
theorem below_drewN {B : Nat} {a w : World} (h : Below B a w) (n : Nat) : Below B a (w.drewN n) := ⟨h.os, h.tape, h.output, h.size, h.block⟩
end Go.Proofs.YtpenejigebkkmaaGreat

namespace Go.Proofs.YtpenejigebkkmaaGreat
open Go.RowKit
set_option linter.unusedVariables false
set_option linter.unusedSimpArgs false

theorem quiet_same {P : Program} {f : FuncId} {args : Array Value} {w : World} {n : Nat} {v : Value} (h : Calls P f args (w.drewN n) fun e w' => e = .returned v ∧ w.drewN n = w') :
    Calls P f args (w.drewN n) fun e w'' => e = .returned v ∧ ∃ m, w'' = w.drewN m := h.mono fun _ _ ⟨he, hm⟩ => ⟨he, n, hm.symm⟩

/-- But for the blocks F what was there is as it was. -/
structure Keeps (F : Nat → Prop) (w w' : World) : Prop where
  os : w'.os = w.os
  tape : w'.tape = w.tape
  output : w'.output = w.output
  size : w.heap.size ≤ w'.heap.size
  block : ∀ k, k < w.heap.size → ¬ F k → w'.heap[k]? = w.heap[k]?

theorem Keeps.refl (F : Nat → Prop) (w : World) : Keeps F w w := ⟨rfl, rfl, rfl, Nat.le_refl _, fun _ _ _ => rfl⟩
theorem Keeps.of_below {F : Nat → Prop} {w w' : World} (h : Below w.heap.size w w') : Keeps F w w' := ⟨h.os, h.tape, h.output, h.size, fun k hk _ => h.block k hk⟩
theorem Keeps.below {F : Nat → Prop} {w w' : World} {B : Nat} (h : Keeps F w w') (hB : B ≤ w.heap.size) (hF : ∀ k, F k → B ≤ k) : Below B w w' := ⟨h.os, h.tape, h.output, h.size, fun k hk => h.block k (by omega) (fun hf => by have := hF k hf; omega)⟩
theorem Keeps.mono {F G : Nat → Prop} {w w' : World} (h : Keeps F w w') (hF : ∀ k, F k → G k) : Keeps G w w' := ⟨h.os, h.tape, h.output, h.size, fun k hk hn => h.block k hk (fun hf => hn (hF k hf))⟩
/-- .. and so on; what is new in between may be written. -/
theorem Keeps.trans {F G : Nat → Prop} {w w1 w2 : World} (h : Keeps F w w1) (k : Keeps G w1 w2) (hG : ∀ i, G i → F i ∨ w.heap.size ≤ i) : Keeps F w w2 :=
  ⟨k.os.trans h.os, k.tape.trans h.tape, k.output.trans h.output, Nat.le_trans h.size k.size, fun i hi hn => (k.block i (Nat.lt_of_lt_of_le hi h.size) (fun hg => by rcases hG i hg with h1 | h1; exact hn h1; omega)).trans (h.block i hi hn)⟩
theorem Keeps.trans' {F : Nat → Prop} {w w1 w2 : World} (h : Keeps F w w1) (k : Keeps F w1 w2) : Keeps F w w2 := h.trans k fun _ h => .inl h
theorem Keeps.drew {F : Nat → Prop} {w w1 : World} (h : Keeps F w w1) : Keeps F w w1.drew := ⟨h.os, h.tape, h.output, h.size, h.block⟩
theorem Keeps.alloc {F : Nat → Prop} {w w1 : World} (h : Keeps F w w1) (o : Obj) : Keeps F w (w1.alloc o) :=
  ⟨h.os, h.tape, h.output, by have := h.size; simp; omega, fun k hk hn => (Below.heap_alloc _ _ _ (Nat.lt_of_lt_of_le hk h.size)).trans (h.block k hk hn)⟩
theorem Keeps.setCell {F : Nat → Prop} {w w1 : World} (h : Keeps F w w1) {p : Addr} (hp : F p.block ∨ w.heap.size ≤ p.block) (v : Value) : Keeps F w (w1.setCell p v) :=
  ⟨h.os, h.tape, h.output, by simpa [World.setCell] using h.size, fun k hk hn => (Below.heap_setCell _ _ _ _ (fun e => by subst e; rcases hp with hp | hp; exact hn hp; omega)).trans (h.block k hk hn)⟩
theorem Blk.keeps {F : Nat → Prop} {w w1 : World} {g : Nat} {T : TypeId} {cs : Array Value} (h : Blk w g T cs) (hk : Keeps F w w1) (hg : ¬ F g) : Blk w1 g T cs := (hk.block g h.lt hg).trans h

theorem owns_block {w w1 : World} {base : Nat} {e : TypeId} {size n : Nat} {v : Value} {xs : List Value} (h : w.ownsRow base e size v n xs) (hk : ∀ g, v.ownBlock = some g → w1.heap[g]? = w.heap[g]?) : w1.ownsRow base e size v n xs := by
  refine ⟨h.1, ?_⟩
  rcases h.2 with h1 | ⟨g, cap, cur, hv, hb, hg, r⟩
  · exact .inl h1
  · exact .inr ⟨g, cap, cur, hv, hb, by rw [hk g (by rw [hv]; rfl)]; exact hg, r⟩
theorem owns_mono {w : World} {base b' : Nat} {e : TypeId} {size n : Nat} {v : Value} {xs : List Value} (h : w.ownsRow base e size v n xs) (hb' : b' ≤ base) : w.ownsRow b' e size v n xs := by
  refine ⟨h.1, ?_⟩
  rcases h.2 with h1 | ⟨g, cap, cur, hv, hb, r⟩
  · exact .inl h1
  · exact .inr ⟨g, cap, cur, hv, Nat.le_trans hb' hb, r⟩
theorem owns_base {w : World} {base : Nat} {e : TypeId} {size n : Nat} {v : Value} {xs : List Value} (h : w.ownsRow base e size v n xs) {b' : Nat} (hb : ∀ g, v.ownBlock = some g → b' ≤ g) : w.ownsRow b' e size v n xs := by
  refine ⟨h.1, ?_⟩
  rcases h.2 with h1 | ⟨g, cap, cur, hv, hbg, r⟩
  · exact .inl h1
  · exact .inr ⟨g, cap, cur, hv, hb g (by rw [hv]; rfl), r⟩

/-- A byte as a cell. -/
def byC (b : UInt8) : Value := .int .u8 b.toNat
theorem byC_one (l : List UInt8) : ∀ u ∈ l.map byC, u.oneCell' = true := by
  intro u hu
  obtain ⟨b, _, rfl⟩ := List.mem_map.1 hu
  rfl

/-- A slice of bytes, as a row of its own. -/
def Bys (w : World) (base : Nat) (v : Value) (l : List UInt8) : Prop := w.ownsRow base 5 1 v l.length (l.map byC)

/-- A region, the block of its bytes, and how many may stand there. -/
abbrev RowP := Spm.Rg × Nat × Nat
def rgC (q : RowP) : List Value := [.int .i64 q.1.at_, .int .i64 q.1.sz, .int .i64 q.1.pm, .slice (some ⟨q.2.1, 0, none⟩) q.1.bs.length q.2.2]
def byV (q : RowP) : Value := .slice (some ⟨q.2.1, 0, none⟩) q.1.bs.length q.2.2

def foot (a : Nat) (v : Value) (Q : List RowP) : List Nat := a :: (v.ownBlock.toList ++ Q.map (·.2.1))

/-- A space (of type ts, its rows of type tr) stands at block a: v is its slice, Q its regions. -/
structure Spc (ts tr : TypeId) (w : World) (a : Nat) (v : Value) (Q : List RowP) : Prop where
  box : Blk w a ts #[v]
  row : w.ownsRow 0 tr 4 v Q.length (Q.flatMap rgC)
  each : ∀ q ∈ Q, Bys w 0 (byV q) q.1.bs
  nd : (foot a v Q).Nodup

def SpcAt (ts tr : TypeId) (w : World) (a : Nat) (F : Nat → Prop) (L : List Spm.Rg) : Prop := ∃ v Q, Spc ts tr w a v Q ∧ Q.map (·.1) = L ∧ ∀ k ∈ foot a v Q, F k

theorem rows_get (Q : List RowP) : ∀ (i j : Nat) (q : RowP) (u : Value), Q[i]? = some q → (rgC q)[j]? = some u → (Q.flatMap rgC)[i * 4 + j]? = some u := by
  induction Q with
  | nil => intro i j q u h; simp at h
  | cons x Q ih =>
    intro i j q u h hu
    have hl : (rgC x).length = 4 := rfl
    rw [List.flatMap_cons]
    cases i with
    | zero =>
      simp at h; subst h
      rw [List.getElem?_append_left (by have := (List.getElem?_eq_some_iff.1 hu).1; omega)]
      simpa using hu
    | succ i =>
      rw [List.getElem?_append_right (by omega), hl, show (i + 1) * 4 + j - 4 = i * 4 + j by omega]
      exact ih i j q u (by simpa using h) hu
theorem rows_len (Q : List RowP) : (Q.flatMap rgC).length = Q.length * 4 := by
  induction Q with
  | nil => rfl
  | cons x Q ih => rw [List.flatMap_cons, List.length_append, ih]; simp [rgC]; omega
theorem rows_take (Q : List RowP) (k : Nat) : (Q.flatMap rgC).take (k * 4) = (Q.take k).flatMap rgC := by
  induction Q generalizing k with
  | nil => simp
  | cons x Q ih =>
    cases k with
    | zero => simp
    | succ k =>
      have hl : (rgC x).length = 4 := rfl
      rw [List.flatMap_cons, List.take_succ_cons, List.flatMap_cons, show (k + 1) * 4 = (rgC x).length + k * 4 by omega, List.take_length_add_append, ih]
theorem rows_drop (Q : List RowP) (k : Nat) : (Q.flatMap rgC).drop (k * 4) = (Q.drop k).flatMap rgC := by
  induction Q generalizing k with
  | nil => simp
  | cons x Q ih =>
    cases k with
    | zero => simp
    | succ k =>
      have hl : (rgC x).length = 4 := rfl
      rw [List.flatMap_cons, List.drop_succ_cons, show (k + 1) * 4 = (rgC x).length + k * 4 by omega, List.drop_length_add_append, ih]

section
variable {ts tr : TypeId} {w w' : World} {a : Nat} {v : Value} {Q : List RowP} {F G : Nat → Prop} {L : List Spm.Rg}

theorem foot_a : a ∈ foot a v Q := List.mem_cons_self
theorem foot_v {g : Nat} (h : v.ownBlock = some g) : g ∈ foot a v Q := by unfold foot; rw [h]; simp
theorem foot_q {q : RowP} (h : q ∈ Q) : q.2.1 ∈ foot a v Q := by
  unfold foot
  refine List.mem_cons_of_mem _ (List.mem_append_right _ ?_)
  exact List.mem_map.2 ⟨q, h, rfl⟩

theorem Spc.keep (h : Spc ts tr w a v Q) (hk : ∀ k ∈ foot a v Q, w'.heap[k]? = w.heap[k]?) : Spc ts tr w' a v Q :=
  ⟨(hk a foot_a).trans h.box, owns_block h.row (fun g hg => hk g (foot_v hg)), fun q hq => owns_block (h.each q hq) (fun g hg => hk g (by simp [byV, Value.ownBlock] at hg; subst hg; exact foot_q hq)), h.nd⟩
theorem Spc.lt (h : Spc ts tr w a v Q) : ∀ k ∈ foot a v Q, k < w.heap.size := by
  intro k hk
  unfold foot at hk
  rcases List.mem_cons.1 hk with rfl | hk
  · exact h.box.lt
  · rcases List.mem_append.1 hk with hk | hk
    · cases hv : v.ownBlock with
      | none => rw [hv] at hk; simp at hk
      | some g => rw [hv] at hk; simp at hk; subst hk; exact (h.row.lt _ hv).2
    · obtain ⟨q, hq, rfl⟩ := List.mem_map.1 hk
      exact ((h.each q hq).lt _ rfl).2
theorem SpcAt.keep (h : SpcAt ts tr w a F L) (hk : ∀ k, F k → k < w.heap.size → w'.heap[k]? = w.heap[k]?) : SpcAt ts tr w' a F L := by
  obtain ⟨v, Q, hs, hL, hF⟩ := h
  exact ⟨v, Q, hs.keep (fun k hm => hk k (hF k hm) (hs.lt k hm)), hL, hF⟩
theorem SpcAt.stay (h : SpcAt ts tr w a F L) (hb : Below w.heap.size w w') : SpcAt ts tr w' a F L := h.keep fun k _ hk => hb.block k hk
theorem SpcAt.keeps (h : SpcAt ts tr w a F L) (hb : Keeps G w w') (hd : ∀ k, F k → ¬ G k) : SpcAt ts tr w' a F L := h.keep fun k hf hk => hb.block k hk (hd k hf)
theorem SpcAt.mono (h : SpcAt ts tr w a F L) (hG : ∀ k, F k → k < w.heap.size → G k) : SpcAt ts tr w a G L := by
  obtain ⟨v, Q, hs, hL, hF⟩ := h
  exact ⟨v, Q, hs, hL, fun k hk => hG k (hF k hk) (hs.lt k hk)⟩
theorem SpcAt.lt (h : SpcAt ts tr w a F L) : a < w.heap.size := by
  obtain ⟨v, Q, hs, hL, hF⟩ := h
  exact hs.box.lt
theorem SpcAt.at_ (h : SpcAt ts tr w a F L) : F a := by
  obtain ⟨v, Q, hs, hL, hF⟩ := h
  exact hF a foot_a

/-- What a walk reads: the box's one cell; the rows' cells. -/
theorem Spc.cells (h : Spc ts tr w a v Q) : ∃ A cap, v = .slice A Q.length cap ∧ w.cell? ⟨a, 0, none⟩ = some (.slice A Q.length cap) ∧ Q.length ≤ cap ∧ cap ≤ maxLen ∧
    ∀ i q, Q[i]? = some q → ∃ g, A = some ⟨g, 0, none⟩ ∧ g < w.heap.size ∧ ∀ j u, (rgC q)[j]? = some u → w.cell? ⟨g, i * 4 + j, none⟩ = some u := by
  have hc := h.box.cell 0
  rcases h.row.2 with ⟨hv, hn⟩ | ⟨g, cap, cur, hv, hb, hg, hl, hm, hs, ht⟩
  · refine ⟨none, 0, by rw [hv, hn], by rw [hc, hv, hn]; rfl, by omega, Nat.zero_le _, fun i q hq => ?_⟩
    have : Q = [] := List.eq_nil_of_length_eq_zero hn
    subst this
    simp at hq
  · refine ⟨some ⟨g, 0, none⟩, cap, hv, by rw [hc, hv]; rfl, hl, hm, fun i q hq => ⟨g, rfl, (Array.getElem?_eq_some_iff.1 hg).1, fun j u hu => ?_⟩⟩
    have h1 := h.row.cells (g := g) (by rw [hv]; rfl) _ _ (rows_get Q i j q u hq hu)
    rwa [Addr.add_lit, Nat.zero_add] at h1
theorem Spc.bys (h : Spc ts tr w a v Q) {q : RowP} (hq : q ∈ Q) : q.2.1 < w.heap.size ∧ q.1.bs.length ≤ q.2.2 ∧ q.2.2 ≤ maxLen ∧ ∀ j b, q.1.bs[j]? = some b → w.cell? ⟨q.2.1, j, none⟩ = some (byC b) := by
  have hr := h.each q hq
  rcases hr.2 with ⟨hv, hn⟩ | ⟨g, cap, cur, hv, hb, hg, hl, hm, hs, ht⟩
  · simp [byV] at hv
  · simp only [byV, Value.slice.injEq, Option.some.injEq, Addr.mk.injEq] at hv
    obtain ⟨⟨hg1, _⟩, _, hc⟩ := hv
    refine ⟨(hr.lt _ rfl).2, by omega, by omega, fun j b hj => ?_⟩
    have h1 := hr.cells (g := q.2.1) rfl j (byC b) (by rw [List.getElem?_map, hj]; rfl)
    rwa [Addr.add_lit, Nat.zero_add] at h1
end
end Go.Proofs.YtpenejigebkkmaaGreat

namespace Go.Proofs.YtpenejigebkkmaaGreat
open Go.RowKit Spm
set_option linter.unusedVariables false
set_option linter.unusedSimpArgs false

/-- The program's space at block a. -/
abbrev PSp (w : World) (a : Nat) (F : Nat → Prop) (L : List Rg) : Prop := SpcAt 59 74 w a F L

theorem findIdx_hit {α : Type} {p : α → Bool} {L : List α} {k : Nat} {x : α} (h : k ≤ L.findIdx p) (hx : L[k]? = some x) (hp : p x = true) : L.findIdx p = k := by
  have hl := (List.getElem?_eq_some_iff.1 hx).1
  have he := (List.getElem?_eq_some_iff.1 hx).2
  refine (List.findIdx_eq hl).2 ⟨by rw [he]; exact hp, fun j hj => ?_⟩
  exact (List.not_of_lt_findIdx (by omega))
theorem findIdx_miss {α : Type} {p : α → Bool} {L : List α} {k : Nat} {x : α} (h : k ≤ L.findIdx p) (hx : L[k]? = some x) (hp : p x = false) : k + 1 ≤ L.findIdx p := by
  have hl := (List.getElem?_eq_some_iff.1 hx).1
  have he := (List.getElem?_eq_some_iff.1 hx).2
  rcases Nat.lt_or_ge k (L.findIdx p) with h1 | h1
  · exact h1
  · have : L.findIdx p = k := by omega
    have := ((List.findIdx_eq hl).1 this).1
    rw [he, hp] at this
    cases this

theorem ret_int {k : IntKind} {a b : Int} (h : a = b) : Ending.returned (.int k a) = .returned (.int k b) := by rw [h]
theorem ret_int2 {k j : IntKind} {a b c d : Int} (h : a = b) (h' : c = d) : Ending.returned (.tuple #[.int k a, .int j c]) = .returned (.tuple #[.int k b, .int j d]) := by rw [h, h']

set_option maxRecDepth 100000 in
theorem up_any (n : Int) (h1 : 1 ≤ n) (h2 : n ≤ 1048576) (w : World) : Calls Tryz.prog 75 #[.int .i64 n] w fun e w' => e = .returned (.int .i64 (up n)) ∧ w = w' := by
  go_enter Tryz.func75, Tryz.ntmps75
  go_wp2
  go_ret
  exact ⟨ret_int (by unfold up; omega), rfl⟩

set_option maxRecDepth 100000 in
theorem right_any (size p : Int) (w : World) : Calls Tryz.prog 61 #[.int .i64 size, .int .i64 p] w fun e w' => e = .returned (.int .i64 (right size p)) ∧ w = w' := by
  by_cases h1 : size < 1
  · go_enter Tryz.func61, Tryz.ntmps61; go_wp2; go_ret; exact ⟨ret_int (by rw [right, if_pos (by omega)]), rfl⟩
  · by_cases h2 : 1048576 < size
    · go_enter Tryz.func61, Tryz.ntmps61; go_wp2; go_ret; exact ⟨ret_int (by rw [right, if_pos (by omega)]), rfl⟩
    · by_cases h3 : p < 0
      · go_enter Tryz.func61, Tryz.ntmps61; go_wp2; go_ret; exact ⟨ret_int (by rw [right, if_pos (by omega)]), rfl⟩
      · by_cases h4 : 7 < p
        · go_enter Tryz.func61, Tryz.ntmps61; go_wp2; go_ret; exact ⟨ret_int (by rw [right, if_pos (by omega)]), rfl⟩
        · go_enter Tryz.func61, Tryz.ntmps61; go_wp2; go_ret; exact ⟨ret_int (by rw [right, if_neg (by omega)]), rfl⟩

set_option maxRecDepth 100000 in
set_option maxHeartbeats 1000000 in
theorem find_any (a : Nat) (F : Nat → Prop) (L : List Rg) (at_ : Int) (w : World) (h : PSp w a F L) : Calls Tryz.prog 47 #[.pointer (some ⟨a, 0, none⟩), .int .i64 at_] w fun e w' =>
    e = .returned (.tuple #[.int .i64 (findI L at_), .int .i64 (findE L at_)]) ∧ Below w.heap.size w w' := by
  obtain ⟨v, Q, hs, rfl, hF⟩ := h
  obtain ⟨A, cap, rfl, hc0, hcap, hm, hrow⟩ := hs.cells
  have HR := Lib.hid hrow; clear hrow
  have hbox := hs.box.lt
  clear hs hF
  unfold maxLen at hm
  have hlen : (Q.map (·.1)).length = Q.length := by simp
  have HL := Lib.hid hlen; clear hlen
  go_enter Tryz.func47, Tryz.ntmps47
  go_wp2
  go_loopw [13] (fun i wr => ∃ k : Nat, k ≤ Q.length ∧ i = .int .i64 k ∧ k ≤ findS (Q.map (·.1)) at_ ∧ Below w.heap.size w wr) (fun i _ => Q.length - (intOf i).toNat)
  case atStart => exact ⟨0, Nat.zero_le _, rfl, Nat.zero_le _, Below.refl _ _⟩
  case round =>
    obtain ⟨k, hk, rfl, hf, hbel⟩ := hrel
    have HF := Lib.hid hf; clear hf
    by_cases hlt : k < Q.length
    · obtain ⟨q, hq⟩ : ∃ q, Q[k]? = some q := ⟨Q[k], List.getElem?_eq_getElem hlt⟩
      obtain ⟨g, rfl, hg, hcell⟩ := HR.out k q hq
      have hx : (Q.map (·.1))[k]? = some q.1 := by rw [List.getElem?_map, hq]; rfl
      have HX := Lib.hid hx; clear hx hq
      obtain ⟨⟨qa, qs, qp, qb⟩, qk, qc⟩ := q
      have c0 : wr.cell? ⟨g, k * 4, none⟩ = some (.int .i64 qa) := (hbel.cell (p := ⟨g, k * 4, none⟩) hg).trans (hcell 0 _ rfl)
      have c1 : wr.cell? ⟨g, k * 4 + 1, none⟩ = some (.int .i64 qs) := (hbel.cell (p := ⟨g, k * 4 + 1, none⟩) hg).trans (hcell 1 _ rfl)
      have c2 : wr.cell? ⟨g, k * 4 + 2, none⟩ = some (.int .i64 qp) := (hbel.cell (p := ⟨g, k * 4 + 2, none⟩) hg).trans (hcell 2 _ rfl)
      have c3 : wr.cell? ⟨g, k * 4 + 3, none⟩ = some (.slice (some ⟨qk, 0, none⟩) qb.length qc) := (hbel.cell (p := ⟨g, k * 4 + 3, none⟩) hg).trans (hcell 3 _ rfl)
      clear hcell
      have HB := Lib.hid (fun o => hbel.alloc hbel.size o); clear hbel
      cases he : (qa == at_)
      · have HN := Lib.hid (findIdx_miss HF.out HX.out he)
        go_wp2
        go_roundw
        case rel => exact ⟨k + 1, by omega, by go_num, HN.out, HB.out _⟩
        case measure => simp [intOf]; omega
      · have HN : Hid (findS (Q.map (·.1)) at_ = k) := Lib.hid (findIdx_hit HF.out HX.out he)
        go_wp2
        go_ret2
        exact ⟨ret_int2 (by rw [findI, HN.out, if_pos (by have := HL.out; omega)]) (by rw [findE, HN.out, if_pos (by have := HL.out; omega)]), HB.out _⟩
    · have HN : Hid (¬ findS (Q.map (·.1)) at_ < (Q.map (·.1)).length) := Lib.hid (by have := HF.out; have := HL.out; omega)
      go_wp2
      go_ret2
      exact ⟨ret_int2 (by rw [findI, if_neg HN.out]) (by rw [findE, if_neg HN.out]), hbel⟩
end Go.Proofs.YtpenejigebkkmaaGreat

namespace Go.Proofs.YtpenejigebkkmaaGreat
open Go.RowKit Spm
set_option linter.unusedVariables false
set_option linter.unusedSimpArgs false

theorem max_if (a b : Int) : (if a < b then b else a) = max a b := by split <;> omega
theorem gapGo_cons (n : Int) (r : Rg) (L : List Rg) (x : Int) : gapGo n (r :: L) x = if n ≤ r.at_ - x then x else gapGo n L (max x (r.at_ + r.sz)) := rfl
theorem gapGo_at {n : Int} {L : List Rg} {k : Nat} {r : Rg} {x y : Int} (h : gapGo n (L.drop k) x = y) (hr : L[k]? = some r) : (n ≤ r.at_ - x → y = x) ∧ (¬ n ≤ r.at_ - x → gapGo n (L.drop (k + 1)) (max x (r.at_ + r.sz)) = y) := by
  have hl := (List.getElem?_eq_some_iff.1 hr).1
  have he := (List.getElem?_eq_some_iff.1 hr).2
  rw [List.drop_eq_getElem_cons hl, he, gapGo_cons] at h
  exact ⟨fun hc => by rw [if_pos hc] at h; exact h.symm, fun hc => by rw [if_neg hc] at h; exact h⟩

set_option maxRecDepth 100000 in
theorem gap_arg (a : Nat) (size : Int) (hz : size < 1 ∨ 1048576 < size) (w : World) : Calls Tryz.prog 62 #[.pointer (some ⟨a, 0, none⟩), .int .i64 size] w fun e w' =>
    e = .returned (.tuple #[.int .i64 0, .int .i64 1]) ∧ w = w' := by
  rcases hz with h1 | h1
  · go_enter Tryz.func62, Tryz.ntmps62
    go_wp2
    go_ret2
    exact ⟨rfl, rfl⟩
  · have h2 : ¬ size < 1 := by omega
    go_enter Tryz.func62, Tryz.ntmps62
    go_wp2
    go_ret2
    exact ⟨rfl, rfl⟩

set_option maxRecDepth 100000 in
set_option maxHeartbeats 1000000 in
theorem gap_walk (a : Nat) (F : Nat → Prop) (L : List Rg) (hok : Ok L) (size : Int) (h1 : 1 ≤ size) (h2 : size ≤ 1048576) (w : World) (h : PSp w a F L) : Calls Tryz.prog 62 #[.pointer (some ⟨a, 0, none⟩), .int .i64 size] w fun e w' =>
    e = .returned (.tuple #[.int .i64 (gapS L size).1, .int .i64 (gapS L size).2]) ∧ Below w.heap.size w w' := by
  obtain ⟨v, Q, hs, rfl, hF⟩ := h
  obtain ⟨A, cap, rfl, hc0, hcap, hm, hrow⟩ := hs.cells
  have HR := Lib.hid hrow; clear hrow
  have hbox := hs.box.lt
  clear hs hF
  unfold maxLen at hm
  have hU := up_ge size h1
  have hU2 := up_le size h1 h2
  have hup := fun w => up_any size h1 h2 w
  have HP : Hid (gapS (Q.map (·.1)) size = if 4294967296 - up size < gapGo (up size) (Q.map (·.1)) 4096 then (0, 3) else (gapGo (up size) (Q.map (·.1)) 4096, 0)) := Lib.hid (by rw [gapS, if_neg (by omega)])
  generalize gapS (Q.map (·.1)) size = gs at HP ⊢
  generalize up size = U at hU hU2 hup HP
  obtain ⟨_, _, hU1, _⟩ := hU
  have HU := Lib.hid hup; clear hup
  have HO := Lib.hid hok; clear hok
  obtain ⟨G, hG⟩ : ∃ G, gapGo U (Q.map (·.1)) 4096 = G := ⟨_, rfl⟩
  rw [hG] at HP
  have HG := Lib.hid hG; clear hG
  go_enter Tryz.func62, Tryz.ntmps62
  go_wp2
  go_loopw [6, 20] (fun x i wr => ∃ (k : Nat) (y : Int), k ≤ Q.length ∧ i = .int .i64 k ∧ x = .int .i64 y ∧ 4096 ≤ y ∧ y ≤ 4294967296 ∧ Hid (gapGo U ((Q.map (·.1)).drop k) y = G) ∧ Below w.heap.size w wr) (fun _ i _ => Q.length - (intOf i).toNat)
  case atStart => exact ⟨0, 4096, Nat.zero_le _, rfl, rfl, by omega, by omega, HG, Below.refl _ _⟩
  case round =>
    obtain ⟨k, y, hk, rfl, rfl, hy1, hy2, hg0, hbel⟩ := hrel
    by_cases hlt : k < Q.length
    · obtain ⟨q, hq⟩ : ∃ q, Q[k]? = some q := ⟨Q[k], List.getElem?_eq_getElem hlt⟩
      obtain ⟨g, rfl, hg, hcell⟩ := HR.out k q hq
      have hx : (Q.map (·.1))[k]? = some q.1 := by rw [List.getElem?_map, hq]; rfl
      have HX := Lib.hid hx; clear hx
      have HQ := Lib.hid hq; clear hq
      obtain ⟨⟨qa, qs, qp, qb⟩, qk, qc⟩ := q
      have c0 : wr.cell? ⟨g, k * 4, none⟩ = some (.int .i64 qa) := (hbel.cell (p := ⟨g, k * 4, none⟩) hg).trans (hcell 0 _ rfl)
      have c1 : wr.cell? ⟨g, k * 4 + 1, none⟩ = some (.int .i64 qs) := (hbel.cell (p := ⟨g, k * 4 + 1, none⟩) hg).trans (hcell 1 _ rfl)
      have c2 : wr.cell? ⟨g, k * 4 + 2, none⟩ = some (.int .i64 qp) := (hbel.cell (p := ⟨g, k * 4 + 2, none⟩) hg).trans (hcell 2 _ rfl)
      have c3 : wr.cell? ⟨g, k * 4 + 3, none⟩ = some (.slice (some ⟨qk, 0, none⟩) qb.length qc) := (hbel.cell (p := ⟨g, k * 4 + 3, none⟩) hg).trans (hcell 3 _ rfl)
      clear hcell
      have hrg := HO.out.each _ (List.mem_of_getElem? HX.out)
      have rlo := hrg.lo
      have rhi := hrg.hi
      have rsz := hrg.slo
      simp only at rlo rhi rsz
      clear hrg
      have hs1 : IntKind.i64.wrap (qa - y) = qa - y := IntWalk.i64_in _ (by omega)
      have hst := gapGo_at hg0.out HX.out
      simp only at hst
      have HB := Lib.hid (fun o => hbel.alloc hbel.size o); clear hbel
      by_cases hc : U ≤ qa - y
      · have HN := Lib.hid (hst.1 hc)
        clear hst
        have hd : ¬ 4294967296 - U < y := by omega
        have HV : Hid (gs = (y, 0)) := Lib.hid (by rw [HP.out, HN.out] ; exact if_neg hd)
        go_wp2_with fail
        go_quiet ((go_at_call 75; exact quiet_same (HU.out _)))
        go_wp2_with fail
        refine (HU.out _).mono ?_; rintro e w' ⟨rfl, rfl⟩
        go_wp2
        go_ret2
        exact ⟨ret_int2 (by rw [HV.out]) (by rw [HV.out]), below_drewN (HB.out _) _⟩
      · have HN := Lib.hid (hst.2 hc)
        clear hst
        go_wp2_with fail
        go_quiet ((go_at_call 75; exact quiet_same (HU.out _)))
        go_wp2
        go_roundw
        case rel => exact ⟨k + 1, max y (qa + qs), by omega, by go_num, by rw [max_if], by omega, by omega, HN, below_drewN (HB.out _) _⟩
        case measure => simp [intOf]; omega
    · have hg1 : G = y := by have := hg0.out; rw [List.drop_of_length_le (by simp; omega)] at this; exact this.symm
      have HG1 := Lib.hid hg1; clear hg1
      by_cases hd : 4294967296 - U < y
      · have HV : Hid (gs = (0, 3)) := Lib.hid (by rw [HP.out, HG1.out]; exact if_pos hd)
        go_wp2_with fail
        refine (HU.out _).mono ?_; rintro e w' ⟨rfl, rfl⟩
        go_wp2
        go_ret2
        exact ⟨ret_int2 (by rw [HV.out]) (by rw [HV.out]), hbel⟩
      · have HV : Hid (gs = (y, 0)) := Lib.hid (by rw [HP.out, HG1.out]; exact if_neg hd)
        go_wp2_with fail
        refine (HU.out _).mono ?_; rintro e w' ⟨rfl, rfl⟩
        go_wp2
        go_ret2
        exact ⟨ret_int2 (by rw [HV.out]) (by rw [HV.out]), hbel⟩

theorem gap_any (a : Nat) (F : Nat → Prop) (L : List Rg) (hok : Ok L) (size : Int) (w : World) (h : PSp w a F L) : Calls Tryz.prog 62 #[.pointer (some ⟨a, 0, none⟩), .int .i64 size] w fun e w' =>
    e = .returned (.tuple #[.int .i64 (gapS L size).1, .int .i64 (gapS L size).2]) ∧ Below w.heap.size w w' := by
  by_cases hz : size < 1 ∨ 1048576 < size
  · refine (gap_arg a size hz w).mono ?_
    rintro e w' ⟨rfl, rfl⟩
    exact ⟨by rw [gapS, if_pos hz], Below.refl _ _⟩
  · exact gap_walk a F L hok size (by omega) (by omega) w h
end Go.Proofs.YtpenejigebkkmaaGreat

namespace Go.Proofs.YtpenejigebkkmaaGreat
open Go.RowKit Spm
set_option linter.unusedVariables false
set_option linter.unusedSimpArgs false

/-- A range's slice. -/
def partV (Q : List RowP) (at_ : Int) (n : Nat) (p : Int) : Value :=
  match Q[partK (Q.map (·.1)) at_]? with
  | none => .slice none 0 0
  | some q => if partS (Q.map (·.1)) at_ n p = 0 then .slice (some ⟨q.2.1, (at_ - q.1.at_).toNat, none⟩) n (q.2.2 - (at_ - q.1.at_).toNat) else .slice none 0 0

theorem partV_none {Q : List RowP} {at_ : Int} {n : Nat} {p : Int} (h : Q.length ≤ partK (Q.map (·.1)) at_) : partV Q at_ n p = .slice none 0 0 := by
  unfold partV; rw [List.getElem?_eq_none h]
theorem partV_bad {Q : List RowP} {at_ : Int} {n : Nat} {p : Int} (h : partS (Q.map (·.1)) at_ n p ≠ 0) : partV Q at_ n p = .slice none 0 0 := by
  unfold partV; split
  · rfl
  · exact if_neg h
theorem partV_ok {Q : List RowP} {at_ : Int} {n : Nat} {p : Int} {q : RowP} (hq : Q[partK (Q.map (·.1)) at_]? = some q) (h : partS (Q.map (·.1)) at_ n p = 0) :
    partV Q at_ n p = .slice (some ⟨q.2.1, (at_ - q.1.at_).toNat, none⟩) n (q.2.2 - (at_ - q.1.at_).toNat) := by
  unfold partV; rw [hq]; exact if_pos h

/-- A permission that may be asked for. -/
def OneP (p : Int) : Prop := p = 0 ∨ p = 1 ∨ p = 2 ∨ p = 4
theorem ret_si {x y : Value} {k : IntKind} {c d : Int} (h : x = y) (h' : c = d) : Ending.returned (.tuple #[y, .int k d]) = .returned (.tuple #[x, .int k c]) := by rw [h, h']
theorem has_bits (pm p : Int) (h0 : 0 ≤ pm) (h7 : pm ≤ 7) (hp : OneP p) : (bits BinOp.and IntKind.i64 pm p == p) = has pm p := by
  have h : pm = 0 ∨ pm = 1 ∨ pm = 2 ∨ pm = 3 ∨ pm = 4 ∨ pm = 5 ∨ pm = 6 ∨ pm = 7 := by omega
  rcases h with rfl | rfl | rfl | rfl | rfl | rfl | rfl | rfl <;> rcases hp with rfl | rfl | rfl | rfl <;> decide +kernel

theorem inside_ff {at_ : Int} {r : Rg} (h : at_ < r.at_) : inside at_ r = false := by unfold inside; simp; omega
theorem inside_ft {at_ : Int} {r : Rg} (h : r.sz ≤ at_ - r.at_) : inside at_ r = false := by unfold inside; simp; omega
theorem inside_tt {at_ : Int} {r : Rg} (h : r.at_ ≤ at_) (h2 : at_ - r.at_ < r.sz) : inside at_ r = true := by unfold inside; simp; omega

set_option maxHeartbeats 2000000 in
set_option maxRecDepth 100000 in
theorem part_any (a : Nat) (v : Value) (Q : List RowP) (hok : Ok (Q.map (·.1))) (at_ : Int) (hat : at_ ≤ 9223372036854775807) (n : Nat) (hn1 : 1 ≤ n) (hn2 : n ≤ 1048576) (p : Int) (hp : OneP p) (w : World) (hs : Spc 59 74 w a v Q) :
    Calls Tryz.prog 64 #[.pointer (some ⟨a, 0, none⟩), .int .i64 at_, .int .i64 n, .int .i64 p] w fun e w' =>
    e = .returned (.tuple #[partV Q at_ n p, .int .i64 (partS (Q.map (·.1)) at_ n p)]) ∧ Below w.heap.size w w' := by
  obtain ⟨A, cap, rfl, hc0, hcap, hm, hrow⟩ := hs.cells
  have HR := Lib.hid hrow; clear hrow
  have hbox := hs.box.lt
  have HS := Lib.hid (fun q (hq : q ∈ Q) => hs.bys hq); clear hs
  unfold maxLen at hm
  have HO := Lib.hid hok; clear hok
  have HPP := Lib.hid hp; clear hp
  go_enter Tryz.func64, Tryz.ntmps64
  go_wp2
  go_loopw [17] (fun i wr => ∃ k : Nat, k ≤ Q.length ∧ i = .int .i64 k ∧ Hid (k ≤ partK (Q.map (·.1)) at_) ∧ Below w.heap.size w wr) (fun i _ => Q.length - (intOf i).toNat)
  case atStart => exact ⟨0, Nat.zero_le _, rfl, Lib.hid (Nat.zero_le _), Below.refl _ _⟩
  case round =>
    obtain ⟨k, hk, rfl, hf, hbel⟩ := hrel
    by_cases hlt : k < Q.length
    · obtain ⟨q, hq⟩ : ∃ q, Q[k]? = some q := ⟨Q[k], List.getElem?_eq_getElem hlt⟩
      obtain ⟨g, rfl, hg, hcell⟩ := HR.out k q hq
      have hx : (Q.map (·.1))[k]? = some q.1 := by rw [List.getElem?_map, hq]; rfl
      have HX := Lib.hid hx; clear hx
      have HQ := Lib.hid hq; clear hq
      obtain ⟨⟨qa, qs, qp, qb⟩, qk, qc⟩ := q
      have c0 : wr.cell? ⟨g, k * 4, none⟩ = some (.int .i64 qa) := (hbel.cell (p := ⟨g, k * 4, none⟩) hg).trans (hcell 0 _ rfl)
      have c1 : wr.cell? ⟨g, k * 4 + 1, none⟩ = some (.int .i64 qs) := (hbel.cell (p := ⟨g, k * 4 + 1, none⟩) hg).trans (hcell 1 _ rfl)
      have c2 : wr.cell? ⟨g, k * 4 + 2, none⟩ = some (.int .i64 qp) := (hbel.cell (p := ⟨g, k * 4 + 2, none⟩) hg).trans (hcell 2 _ rfl)
      have c3 : wr.cell? ⟨g, k * 4 + 3, none⟩ = some (.slice (some ⟨qk, 0, none⟩) qb.length qc) := (hbel.cell (p := ⟨g, k * 4 + 3, none⟩) hg).trans (hcell 3 _ rfl)
      clear hcell
      have hrg := HO.out.each _ (List.mem_of_getElem? HX.out)
      have rlo := hrg.lo
      have rhi := hrg.hi
      have rsz := hrg.slo
      have rln := hrg.len
      have rp := has_bits qp p hrg.p0 hrg.p7 HPP.out
      have hqc := (HS.out _ (List.mem_of_getElem? HQ.out)).2.1
      have hqm := (HS.out _ (List.mem_of_getElem? HQ.out)).2.2.1
      unfold maxLen at hqm
      simp only at rlo rhi rsz rln hqc hqm
      have HLN := Lib.hid rln; clear rln hrg
      have HRP := Lib.hid rp; clear rp
      have hcr := (hbel.cell (p := ⟨a, 0, none⟩) hbox).trans hc0
      have HBD := Lib.hid (fun m => below_drewN hbel m)
      have HB := Lib.hid hbel; clear hbel
      by_cases h1 : at_ < qa
      · have HN : Hid (k + 1 ≤ partK (Q.map (·.1)) at_) := Lib.hid (findIdx_miss hf.out HX.out (inside_ff h1))
        go_wp2_with fail
        go_quiet (fail)
        go_wp2
        go_roundw
        case rel => exact ⟨k + 1, by omega, by go_num, HN, HBD.out _⟩
        case measure => simp [intOf]; omega
      · obtain ⟨o, ho⟩ : ∃ o : Nat, at_ = qa + (o : Int) := ⟨(at_ - qa).toNat, by omega⟩
        subst ho
        have hw1 : IntKind.i64.wrap (qa + (o : Int) - qa) = (o : Int) := by rw [show qa + (o : Int) - qa = o by omega]; exact IntWalk.i64_in _ (by omega)
        by_cases h2 : qs ≤ (o : Int)
        · have HN : Hid (k + 1 ≤ partK (Q.map (·.1)) (qa + (o : Int))) := Lib.hid (findIdx_miss hf.out HX.out (inside_ft (by simp only; omega)))
          go_wp2_with fail
          go_quiet (fail)
          go_wp2
          go_roundw
          case rel => exact ⟨k + 1, by omega, by go_num, HN, HBD.out _⟩
          case measure => simp [intOf]; omega
        · have HK : Hid (partK (Q.map (·.1)) (qa + (o : Int)) = k) := Lib.hid (findIdx_hit hf.out HX.out (inside_tt (by simp only; omega) (by simp only; omega)))
          have HPS : Hid (partS (Q.map (·.1)) (qa + (o : Int)) n p = if qs - (qa + (o : Int) - qa) < n then 50 else if has qp p = false then 52 else 0) := Lib.hid (partS_some (by rw [HK.out]; exact HX.out))
          have hw2 : IntKind.i64.wrap (qs - (o : Int)) = qs - (o : Int) := IntWalk.i64_in _ (by omega)
          by_cases h3 : qs - (o : Int) < n
          · have HE : Hid (partS (Q.map (·.1)) (qa + (o : Int)) n p = 50) := Lib.hid (by rw [HPS.out]; exact if_pos (by omega))
            have HVV : Hid (partV Q (qa + (o : Int)) n p = .slice none 0 0) := Lib.hid (partV_bad (by rw [HE.out]; decide))
            go_wp2_with fail
            go_quiet (fail)
            go_wp2_with fail
            go_quiet (fail)
            go_wp2
            go_ret2
            first | exact ⟨ret_si HVV.out HE.out, HBD.out _⟩ | exact ⟨ret_si HVV.out HE.out, below_drewN (HBD.out _) _⟩
          · cases h4 : has qp p
            · have HE : Hid (partS (Q.map (·.1)) (qa + (o : Int)) n p = 52) := Lib.hid (by rw [HPS.out, if_neg (by omega), if_pos h4])
              have HVV : Hid (partV Q (qa + (o : Int)) n p = .slice none 0 0) := Lib.hid (partV_bad (by rw [HE.out]; decide))
              have hb := HRP.out
              rw [h4] at hb
              have hb2 : (bits BinOp.and IntKind.i64 qp p != p) = true := by simp only [bne, hb]; rfl
              clear h4
              go_wp2_with fail
              go_quiet (fail)
              go_wp2_with fail
              go_quiet (fail)
              go_wp2
              go_ret2
              first | exact ⟨ret_si HVV.out HE.out, HBD.out _⟩ | exact ⟨ret_si HVV.out HE.out, below_drewN (HBD.out _) _⟩
            · have HE : Hid (partS (Q.map (·.1)) (qa + (o : Int)) n p = 0) := Lib.hid (by rw [HPS.out, if_neg (by omega), if_neg (by rw [h4]; decide)])
              have HVV : Hid (partV Q (qa + (o : Int)) n p = .slice (some ⟨qk, o, none⟩) n (qc - o)) := Lib.hid (by rw [partV_ok (by rw [HK.out]; exact HQ.out) HE.out]; simp only; congr 3 <;> omega)
              have hb := HRP.out
              rw [h4] at hb
              have hb2 : (bits BinOp.and IntKind.i64 qp p != p) = false := by simp only [bne, hb]; rfl
              clear h4
              have hol : o + n ≤ qb.length := by have := HLN.out; omega
              have hoc : o + n ≤ qc := by omega
              have hne : ¬ qc = o := by omega
              have hw3 : IntKind.i64.wrap ((o : Int) + (n : Int)) = (o : Int) + (n : Int) := IntWalk.i64_in _ (by omega)
              have hw4 : ((o : Int) + (n : Int)).toNat = o + n := by omega
              have hw5 : (0 : Int) ≤ (o : Int) + (n : Int) := by omega
              go_wp2_with fail
              go_quiet (fail)
              go_wp2_with fail
              go_quiet (fail)
              go_wp2_with fail
              go_quiet (fail)
              go_wp2
              go_ret2
              first | exact ⟨ret_si HVV.out HE.out, HBD.out _⟩ | exact ⟨ret_si HVV.out HE.out, below_drewN (HBD.out _) _⟩
    · have hk' : Q.length ≤ partK (Q.map (·.1)) at_ := by have := hf.out; omega
      have HE : Hid (partS (Q.map (·.1)) at_ n p = 50) := Lib.hid (partS_none (by simpa using hk'))
      have HVV : Hid (partV Q at_ n p = .slice none 0 0) := Lib.hid (partV_none hk')
      clear hk'
      go_wp2
      go_ret2
      exact ⟨ret_si HVV.out HE.out, hbel⟩
end Go.Proofs.YtpenejigebkkmaaGreat
