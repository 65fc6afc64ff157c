/-
  Blocks of cells, known whole: what an allocation, a draw, a store, a callee leaves of them.
  Conditions: none. (My own text.)
-/
import Derived.Test.YtpononkgeeahdaaFrame
import Derived.Deep.Draws
namespace Go.Proofs.Ytpononkgeeahdaa
open Go.RowKit

/-- Block g is a block of cells, of type T, and these are the cells. -/
def Blk (w : World) (g : Nat) (T : TypeId) (cs : Array Value) : Prop := w.heap[g]? = some (.cells cs T (0, 0))

theorem Blk.lt {w : World} {g : Nat} {T : TypeId} {cs : Array Value} (h : Blk w g T cs) : g < w.heap.size := by
  rcases Nat.lt_or_ge g w.heap.size with h' | h'
  · exact h'
  · unfold Blk at h; rw [Array.getElem?_eq_none h'] at h; cases h
theorem Blk.cell {w : World} {g : Nat} {T : TypeId} {cs : Array Value} (h : Blk w g T cs) (k_ : Nat) : w.cell? ⟨g, k_, none⟩ = cs[k_]? := cell_of_row w g k_ _ _ _ h
theorem Blk.free {w : World} {g : Nat} {T : TypeId} {cs : Array Value} (h : Blk w g T cs) (k_ : Nat) : w.frozen? ⟨g, k_, none⟩ = false := frozen_of_row w g k_ _ _ h
theorem Blk.new (w : World) (T : TypeId) (cs : Array Value) : Blk (w.alloc (.cells cs T)) w.heap.size T cs := heap_alloc_new w _
theorem Blk.at_ {w : World} {g : Nat} {T : TypeId} {cs : Array Value} (h : g = w.heap.size) : Blk (w.alloc (.cells cs T)) g T cs := by subst h; exact Blk.new w T cs
theorem Blk.alloc {w : World} {g : Nat} {T : TypeId} {cs : Array Value} (h : Blk w g T cs) (o : Obj) : Blk (w.alloc o) g T cs := by
  unfold Blk; rw [Below.heap_alloc _ _ _ h.lt]; exact h
theorem Blk.drew {w : World} {g : Nat} {T : TypeId} {cs : Array Value} (h : Blk w g T cs) : Blk w.drew g T cs := h
theorem Blk.stay {w w1 : World} {g : Nat} {T : TypeId} {cs : Array Value} (h : Blk w g T cs) {B : Nat} (hb : Below B w w1) (hg : g < B) : Blk w1 g T cs := (hb.block g hg).trans h
theorem Blk.keep {w w1 : World} {g : Nat} {T : TypeId} {cs : Array Value} (h : Blk w g T cs) (hb : Below w.heap.size w w1) : Blk w1 g T cs := h.stay hb h.lt
theorem Blk.other {w : World} {g : Nat} {T : TypeId} {cs : Array Value} (h : Blk w g T cs) {p : Addr} (hp : g ≠ p.block) (v : Value) : Blk (w.setCell p v) g T cs := by
  unfold Blk; rw [Below.heap_setCell _ _ _ _ hp]; exact h
theorem Blk.set {w : World} {g : Nat} {T : TypeId} {cs : Array Value} (h : Blk w g T cs) (k_ : Nat) (v : Value) : Blk (w.setCell ⟨g, k_, none⟩ v) g T (cs.setIfInBounds k_ v) := by
  have hl := h.lt
  unfold Blk at h ⊢
  simp only [World.setCell, Array.getElem?_modify, if_true, h, Option.map_some]
  rfl
theorem Blk.three0 (w : World) (T : TypeId) (cs : Array Value) (o1 o2 : Obj) : Blk (((w.alloc (.cells cs T)).alloc o1).alloc o2) w.heap.size T cs := ((Blk.new _ _ _).alloc _).alloc _
theorem Blk.three1 (w : World) (T : TypeId) (cs : Array Value) (o0 o2 : Obj) : Blk (((w.alloc o0).alloc (.cells cs T)).alloc o2) (w.heap.size + 1) T cs := (Blk.at_ (by simp)).alloc _
theorem Blk.three2 (w : World) (T : TypeId) (cs : Array Value) (o0 o1 : Obj) : Blk (((w.alloc o0).alloc o1).alloc (.cells cs T)) (w.heap.size + 1 + 1) T cs := Blk.at_ (by simp)
theorem below_alloc {B : Nat} {a w : World} (h : Below B a w) (hB : B ≤ a.heap.size) (o : Obj) : Below B a (w.alloc o) := h.alloc (Nat.le_trans hB h.size) o
theorem below_drewN {B : Nat} {a w : World} (h : Below B a w) (n : Nat) : Below B a (w.drewN n) := ⟨h.os, h.tape, h.output, h.size, h.block⟩
end Go.Proofs.Ytpononkgeeahdaa
