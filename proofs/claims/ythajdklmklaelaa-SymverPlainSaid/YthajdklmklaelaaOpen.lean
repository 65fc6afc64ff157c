/-
  How a law's arguments read: structs of one-cell fields by value; slices of such structs; strings; bytes.
  Conditions: none. (My own text.)
-/
import Derived.Test.YthajdklmklaelaaFrame
import Derived.Deep.Fields
import Derived.Deep.Slices
namespace Go.Proofs.Ythajdklmklaelaa
open Go.ChangeShapes Go.WideShapes Go.ChangeAt Go.RowKit Go.Deep

section
variable {H : Type} {enc : TypeId × Value → H} {P : Program} {w : World} {base : Nat} {spare : Nat → Bool} {held : Bool}

/-- A struct of one-cell fields, its cells one by one. -/
theorem trod_ones {t : TypeId} {fs : Array Field} {fuel : Nat} {cs : List Value} {x : DataW H × List MemPlace} (hs : P.underlying t = some (.struct fs)) (hone : oneCellFields P fs = true) (hC : P.cellsOf t = fs.size)
    (h : DataW.trod enc P w base spare held fuel t cs = some x) :
    cs.length = fs.size ∧ ∀ (i : Nat) (f : Field) (c : Value), fs[i]? = some f → cs[i]? = some c → ∃ (n : Nat) (y : DataW H × List MemPlace), DataW.trod enc P w base spare held n f.type [c] = some y := by
  obtain ⟨xs, n, _, _, hl, hlen, hf⟩ := DataW.trod_struct hs h
  refine ⟨hl.trans hC, fun i f c hi hc => ?_⟩
  obtain ⟨ho, hk⟩ := hone_of hone i f hi
  have hlt : i < fs.size := (Array.getElem?_eq_some_iff.1 hi).1
  have h1 := hf i f hi
  have hci : i < cs.length := by omega
  rw [ho, hk, take1_drop cs i c hci, List.getD_eq_getElem?_getD, hc, List.getElem?_eq_getElem (by omega)] at h1
  exact ⟨n, _, h1⟩

/-- .. by value. -/
theorem open_ones {r : Reach} {b0 : Nat} {t : TypeId} {fs : Array Field} {v : Value} {d : DataW H} {p : List MemPlace} (hs : P.underlying t = some (.struct fs)) (hone : oneCellFields P fs = true) (hC : P.cellsOf t = fs.size)
    (hv : Value.okWide P w r b0 t v) (h : DataW.Trod enc P w base spare held t v d p) :
    ∃ cs : List Value, v = .agg cs.toArray ∧ cs.length = fs.size ∧ ∀ (i : Nat) (f : Field) (c : Value), fs[i]? = some f → cs[i]? = some c → ∃ (n : Nat) (y : DataW H × List MemPlace), DataW.trod enc P w base spare held n f.type [c] = some y := by
  obtain ⟨cs, rfl, hsz⟩ := okWide_struct hs hv
  obtain ⟨fuel, hf⟩ := h
  obtain ⟨h1, h2⟩ := trod_ones hs hone hC hf
  exact ⟨cs.toList, rfl, h1, h2⟩

theorem int_cell {e : TypeId} {k : IntKind} {n : Nat} {c : Value} {y : DataW H × List MemPlace} (he : P.underlying e = some (.int k)) (h : DataW.trod enc P w base spare held n e [c] = some y) :
    ∃ x : Int, c = .int k x ∧ (Lit.int k x).wf = true := by
  obtain ⟨x, h1, _, h2⟩ := DataW.trod_int he h
  exact ⟨x, by simpa using h1, h2⟩
theorem bool_cell {e : TypeId} {n : Nat} {c : Value} {y : DataW H × List MemPlace} (he : P.underlying e = some .bool) (h : DataW.trod enc P w base spare held n e [c] = some y) :
    ∃ x : Bool, c = .bool x := by
  obtain ⟨x, h1, _⟩ := DataW.trod_bool he h
  exact ⟨x, by simpa using h1⟩
theorem string_cell {e : TypeId} {n : Nat} {c : Value} {y : DataW H × List MemPlace} (he : P.underlying e = some .string) (h : DataW.trod enc P w base spare held n e [c] = some y) :
    ∃ x : ByteArray, c = .string x ∧ x.size ≤ maxLen := by
  obtain ⟨x, h1, _, h2⟩ := DataW.trod_string he h
  exact ⟨x, by simpa using h1, h2⟩
end
end Go.Proofs.Ythajdklmklaelaa
