/-
  How a law's arguments read: structs of one-cell fields by value; slices of such structs; strings; bytes.
  Conditions: none. (My own text.)
-/
import Derived.Test.YtmbacegbcccdjaaDoorFrame
import Derived.Deep.Fields
import Derived.Deep.Slices
import Derived.SizedLaws
namespace Go.Proofs.YtmbacegbcccdjaaDoor
open Go.ChangeShapes Go.WideShapes Go.ChangeAt Go.RowKit Go.Deep

section
variable {H : Type} {enc : TypeId × Value → H} {P : Program} {w : World} {base : Nat} {spare : Nat → Bool} {held : Bool}

/-- A struct of one-cell fields, its cells one by one. -/
theorem trod_ones {t : TypeId} {fs : Array Field} {fuel : Nat} {cs : List Value} {x : DataW H × List MemPlace} (hs : P.underlying t = some (.struct fs)) (hone : oneCellFields P fs = true) (hC : P.cellsOf t = fs.size)
    (h : DataW.trod enc P w base spare held fuel t cs = some x) :
    cs.length = fs.size ∧ ∀ (i : Nat) (f : Field) (c : Value), fs[i]? = some f → cs[i]? = some c → ∃ (n : Nat) (y : DataW H × List MemPlace), DataW.trod enc P w base spare held n f.type [c] = some y := by
  obtain ⟨xs, n, _, _, hl, hlen, hf⟩ := DataW.trod_struct hs h
  refine ⟨hl.trans hC, fun i f c hi hc => ?_⟩
  obtain ⟨ho, hk⟩ := hone_of hone i f hi
  have hlt : i < fs.size := (Array.getElem?_eq_some_iff.1 hi).1
  have h1 := hf i f hi
  have hci : i < cs.length := by omega
  rw [ho, hk, take1_drop cs i c hci, List.getD_eq_getElem?_getD, hc, List.getElem?_eq_getElem (by omega)] at h1
  exact ⟨n, _, h1⟩

/-- .. by value. -/
theorem open_ones {r : Reach} {b0 : Nat} {t : TypeId} {fs : Array Field} {v : Value} {d : DataW H} {p : List MemPlace} (hs : P.underlying t = some (.struct fs)) (hone : oneCellFields P fs = true) (hC : P.cellsOf t = fs.size)
    (hv : Value.okWide P w r b0 t v) (h : DataW.Trod enc P w base spare held t v d p) :
    ∃ cs : List Value, v = .agg cs.toArray ∧ cs.length = fs.size ∧ ∀ (i : Nat) (f : Field) (c : Value), fs[i]? = some f → cs[i]? = some c → ∃ (n : Nat) (y : DataW H × List MemPlace), DataW.trod enc P w base spare held n f.type [c] = some y := by
  obtain ⟨cs, rfl, hsz⟩ := okWide_struct hs hv
  obtain ⟨fuel, hf⟩ := h
  obtain ⟨h1, h2⟩ := trod_ones hs hone hC hf
  exact ⟨cs.toList, rfl, h1, h2⟩

/-- .. and what each field weighs the whole weighs. -/
theorem open_onesR {r : Reach} {b0 : Nat} {t : TypeId} {fs : Array Field} {v : Value} {d : DataW H} {p : List MemPlace} (hs : P.underlying t = some (.struct fs)) (hone : oneCellFields P fs = true) (hC : P.cellsOf t = fs.size)
    (hv : Value.okWide P w r b0 t v) (h : DataW.Trod enc P w base spare held t v d p) :
    ∃ cs : List Value, v = .agg cs.toArray ∧ cs.length = fs.size ∧ ∀ (i : Nat) (f : Field) (c : Value), fs[i]? = some f → cs[i]? = some c →
      ∃ (n : Nat) (y : DataW H × List MemPlace), DataW.trod enc P w base spare held n f.type [c] = some y ∧ ∀ m ∈ y.1.weights P f.type, m ∈ d.weights P t := by
  obtain ⟨cs, rfl, hsz⟩ := okWide_struct hs hv
  obtain ⟨fuel, hf⟩ := h
  obtain ⟨xs, n, _, hx, hl, hlen, hg⟩ := DataW.trod_struct hs hf
  refine ⟨cs.toList, rfl, by rw [← hC, ← hsz]; simp, fun i f c hi hc => ?_⟩
  obtain ⟨ho, hk⟩ := hone_of hone i f hi
  have hlt : i < fs.size := (Array.getElem?_eq_some_iff.1 hi).1
  have h1 := hg i f hi
  have hci : i < cs.toList.length := (List.getElem?_eq_some_iff.1 hc).1
  have e : (Value.agg cs).cells.toList = cs.toList := rfl
  rw [e, ho, hk, take1_drop cs.toList i c hci, List.getD_eq_getElem?_getD, hc, List.getElem?_eq_getElem (by omega)] at h1
  refine ⟨n, _, h1, fun m hm => ?_⟩
  simp only [Prod.mk.injEq] at hx
  rw [hx.1]
  simp only [DataW.weights, hs]
  exact DataW.weights_mem_each (j := i) (t := f.type) (d := (xs[i]'(by omega)).1) (by simp [hi]) (by rw [List.getElem?_map, List.getElem?_eq_getElem (by omega)]; rfl) m hm

/-- What an argument weighs is within the reach. -/
theorem reach_of {ts : List TypeId} {ds : List (DataW H)} (h : (DataW.weightsEach P ts ds).all (· ≤ reachBytes) = true) (j : Nat) {t : TypeId} {d : DataW H} (ht : ts[j]? = some t) (hd : ds[j]? = some d) : ∀ m ∈ d.weights P t, m ≤ 140737488351232 := fun m hm => by
  have := List.all_eq_true.1 h _ (DataW.weights_mem_each ht hd m hm)
  show m ≤ reachBytes
  exact of_decide_eq_true this

theorem string_cellR {e : TypeId} {n : Nat} {c : Value} {y : DataW H × List MemPlace} (he : P.underlying e = some .string) (h : DataW.trod enc P w base spare held n e [c] = some y) :
    ∃ x : ByteArray, c = .string x ∧ x.size ∈ y.1.weights P e := by
  obtain ⟨x, h1, h2, _⟩ := DataW.trod_string he h
  refine ⟨x, by simpa using h1, ?_⟩
  rw [h2]
  simp [DataW.weights]

theorem int_cell {e : TypeId} {k : IntKind} {n : Nat} {c : Value} {y : DataW H × List MemPlace} (he : P.underlying e = some (.int k)) (h : DataW.trod enc P w base spare held n e [c] = some y) :
    ∃ x : Int, c = .int k x ∧ (Lit.int k x).wf = true := by
  obtain ⟨x, h1, _, h2⟩ := DataW.trod_int he h
  exact ⟨x, by simpa using h1, h2⟩
theorem bool_cell {e : TypeId} {n : Nat} {c : Value} {y : DataW H × List MemPlace} (he : P.underlying e = some .bool) (h : DataW.trod enc P w base spare held n e [c] = some y) :
    ∃ x : Bool, c = .bool x := by
  obtain ⟨x, h1, _⟩ := DataW.trod_bool he h
  exact ⟨x, by simpa using h1⟩
theorem string_cell {e : TypeId} {n : Nat} {c : Value} {y : DataW H × List MemPlace} (he : P.underlying e = some .string) (h : DataW.trod enc P w base spare held n e [c] = some y) :
    ∃ x : ByteArray, c = .string x ∧ x.size ≤ maxLen := by
  obtain ⟨x, h1, _, h2⟩ := DataW.trod_string he h
  exact ⟨x, by simpa using h1, h2⟩

/-- A slice of structs of one-cell fields: each element's cells, one by one. -/
theorem open_slice_ones {t e : TypeId} {fs : Array Field} {fuel : Nat} {cs : List Value} {x : DataW H × List MemPlace} (ht : P.underlying t = some (.slice e)) (he : P.underlying e = some (.struct fs))
    (hone : oneCellFields P fs = true) (hC : P.cellsOf e = fs.size) (h : DataW.trod enc P w base spare held fuel t cs = some x) :
    cs = [.slice none 0 0] ∨
    ∃ (a : Addr) (len cap : Nat), cs = [.slice (some a) len cap] ∧ len ≤ cap ∧ cap ≤ maxLen ∧
      ∀ i, i < len → ∀ (j : Nat) (f : Field), fs[j]? = some f → ∃ (v : Value) (n : Nat) (y : DataW H × List MemPlace), w.cell? (a.add (i * fs.size + j)) = some v ∧ DataW.trod enc P w base spare held n f.type [v] = some y := by
  rcases DataW.trod_slice ht h with ⟨h0, _⟩ | ⟨a, len, cap, elems, rest, n, _, hcs, hx, hb, hl, hm, hel, hi, _, _⟩
  · exact .inl h0
  · refine .inr ⟨a, len, cap, hcs, hl, hm, fun i him j f hj => ?_⟩
    have h1 := hi i him
    have hlt : i < elems.length := by omega
    rw [List.getElem?_eq_getElem hlt] at h1
    cases hcells : w.cells? base (a.add (i * P.cellsOf e)) (P.cellsOf e) with
    | none => rw [hcells] at h1; simp at h1
    | some cs' =>
      rw [hcells] at h1
      simp only [Option.bind_some] at h1
      obtain ⟨hlen, hone'⟩ := trod_ones he hone hC h1
      obtain ⟨_, hcl, hat⟩ := World.cells?_some hcells
      have hjl : j < fs.size := (Array.getElem?_eq_some_iff.1 hj).1
      have hjc : j < cs'.length := by omega
      obtain ⟨m, y, hy⟩ := hone' j f _ hj (List.getElem?_eq_getElem hjc)
      have hc := hat j (by omega)
      rw [List.getElem?_eq_getElem hjc, hC, Go.Deep.add_add] at hc
      exact ⟨_, m, y, hc, hy⟩

/-- A list of what is there, place by place. -/
theorem list_of {α : Type} {Q : Nat → α → Prop} : ∀ n : Nat, (∀ i, i < n → ∃ x, Q i x) → ∃ l : List α, l.length = n ∧ ∀ i x, l[i]? = some x → Q i x
  | 0, _ => ⟨[], rfl, fun i x h => by simp at h⟩
  | n + 1, h => by
    obtain ⟨l, hl, hq⟩ := list_of n (fun i hi => h i (by omega))
    obtain ⟨x, hx⟩ := h n (by omega)
    refine ⟨l ++ [x], by simp [hl], fun i y hy => ?_⟩
    by_cases hi : i < n
    · rw [List.getElem?_append_left (by omega)] at hy
      exact hq i y hy
    · rw [List.getElem?_append_right (by omega)] at hy
      have hin : i = n := by
        rcases Nat.lt_or_ge i (n + 1) with h1 | h1
        · omega
        · rw [List.getElem?_eq_none (by simp; omega)] at hy; cases hy
      subst hin
      rw [hl] at hy
      simp at hy
      subst hy
      exact hx
end
end Go.Proofs.YtmbacegbcccdjaaDoor
