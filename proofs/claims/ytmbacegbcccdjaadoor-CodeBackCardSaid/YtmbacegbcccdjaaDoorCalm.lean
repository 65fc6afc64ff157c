/-
  Regions that draw their order, whose operations only read what was there, and whose callees leave what was there as it was (they may make memory of their own): one walk of the text's order serves every order.
  Conditions: none. (My own text: the guide's theorem 'wp_region_quiet' at the class of all worlds that are, below the heap's size, as they were.)
-/
import Derived.Test.YtmbacegbcccdjaaDoorFrame
import Derived.Deep.QuietTactic
import Derived.BigQuiet
import Derived.WalkSpells
import Derived.WalkLawsBesides
import Derived.Outline
import Derived.Lib.Hide
namespace Go.Proofs.YtmbacegbcccdjaaDoor
open Go.RowKit
set_option linter.unusedVariables false
set_option linter.unusedSimpArgs false

/-- A world that is, below w's size, as w was. -/
structure Calm (w : World) where
  now : World
  below : Below w.heap.size w now

instance calmNonempty (w : World) : Nonempty (Calm w) := ⟨⟨w, Below.refl _ _⟩⟩

theorem Calm.cell {w : World} (x : Calm w) (b o : Nat) (h : b < w.heap.size) : x.now.cell? ⟨b, o, none⟩ = w.cell? ⟨b, o, none⟩ := x.below.cell (p := ⟨b, o, none⟩) h

section
variable {P : Program}
theorem wp_region_calm {id : Nat} {Q : Exit → Act → World → Prop} {a : Act} {w : World} {l : List Oper} (hm : P.follows .mixedOrders = true) (hB : Region.lexB .any l.toArray = true)
    (h : wpQuiet P l.toArray (fun w' => ∃ x : Calm w, w' = x.now) (fun a' => ∀ w', (∃ x : Calm w, w' = x.now) → Q .normal a' w') l a) : (Code.region id l.toArray true).wp P Q a w :=
  wp_region_quiet (C := fun w' => ∃ x : Calm w, w' = x.now) hm hB ⟨⟨w.drew, (Below.refl _ _).drew⟩, rfl⟩ (by simpa using h)

/-- A callee's contract, met in such a world. -/
theorem calm_call {f : FuncId} {args : Array Value} {w : World} {x : Calm w} {v : Value} (h : Calls P f args x.now fun e w' => e = .returned v ∧ Below x.now.heap.size x.now w') :
    Calls P f args x.now fun e w'' => e = .returned v ∧ ∃ y : Calm w, w'' = y.now :=
  h.mono fun _ w' ⟨he, hb⟩ => ⟨he, ⟨w', x.below.trans (hb.mono x.below.size)⟩, rfl⟩
/-- .. of one that leaves the world as it is. -/
theorem calm_same {f : FuncId} {args : Array Value} {w : World} {x : Calm w} {v : Value} (h : Calls P f args x.now fun e w' => e = .returned v ∧ x.now = w') :
    Calls P f args x.now fun e w'' => e = .returned v ∧ ∃ y : Calm w, w'' = y.now :=
  h.mono fun _ w' ⟨he, hb⟩ => ⟨he, x, hb.symm⟩
end

/-! ### Rows of cells, kept -/
theorem row_new {w1 w2 : World} {cs : Array Value} {t : TypeId} (h : Below (w1.alloc (.cells cs t)).heap.size (w1.alloc (.cells cs t)) w2) : ∀ k, w2.cell? ⟨w1.heap.size, k, none⟩ = cs[k]? :=
  fun k => (h.cell (p := ⟨w1.heap.size, k, none⟩) (by simp)).trans (World.cell?_alloc_at _ _ _ _ rfl)
theorem row_box {w1 w2 : World} {o : Obj} {g : Nat} {cs : Array Value} (h : Below (w1.alloc o).heap.size (w1.alloc o) w2) (hr : ∀ k, w1.cell? ⟨g, k, none⟩ = cs[k]?) (hg : g < w1.heap.size) : ∀ k, w2.cell? ⟨g, k, none⟩ = cs[k]? :=
  fun k => (h.cell (p := ⟨g, k, none⟩) (by simp; omega)).trans ((World.cell?_alloc_lt _ _ _ hg).trans (hr k))
theorem row_stay {w1 w2 : World} {g : Nat} {cs : Array Value} (h : Below w1.heap.size w1 w2) (hr : ∀ k, w1.cell? ⟨g, k, none⟩ = cs[k]?) (hg : g < w1.heap.size) : ∀ k, w2.cell? ⟨g, k, none⟩ = cs[k]? :=
  fun k => (h.cell (p := ⟨g, k, none⟩) hg).trans (hr k)
end Go.Proofs.YtmbacegbcccdjaaDoor
