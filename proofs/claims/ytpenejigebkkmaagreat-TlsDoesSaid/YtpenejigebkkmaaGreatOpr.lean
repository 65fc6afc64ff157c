/-
  Slices of structs that come in, with what each field weighs; acts with the sizes of their bytes.
  Conditions: none. (My own text.)
-/
import Derived.Test.YtpenejigebkkmaaGreatOpen
import Derived.Test.YtpenejigebkkmaaGreatSp5
namespace Go.Proofs.YtpenejigebkkmaaGreat
open Go.ChangeShapes Go.WideShapes Go.ChangeAt Go.RowKit Go.Deep Spm
set_option linter.unusedVariables false
set_option linter.unusedSimpArgs false

theorem weights_all {H : Type} {P : Program} {e : TypeId} : ∀ {ds : List (DataW H)} {i : Nat} {d : DataW H}, ds[i]? = some d → ∀ m ∈ d.weights P e, m ∈ DataW.weightsAll P e ds
  | [], i, d, h => by simp at h
  | d0 :: ds, 0, d, h => fun m hm => by
    simp at h; subst h
    unfold DataW.weightsAll
    exact List.mem_append_left _ hm
  | d0 :: ds, i + 1, d, h => fun m hm => by
    unfold DataW.weightsAll
    exact List.mem_append_right _ (weights_all (by simpa using h) m hm)

section
variable {H : Type} {enc : TypeId × Value → H} {P : Program} {w : World} {base : Nat} {spare : Nat → Bool} {held : Bool}
set_option maxRecDepth 100000 in
theorem open_slice_onesR {t e : TypeId} {fs : Array Field} {fuel : Nat} {cs : List Value} {x : DataW H × List MemPlace} (ht : P.underlying t = some (.slice e)) (he : P.underlying e = some (.struct fs))
    (hone : oneCellFields P fs = true) (hC : P.cellsOf e = fs.size) (h : DataW.trod enc P w base spare held fuel t cs = some x) :
    cs = [.slice none 0 0] ∨
    ∃ (a : Addr) (len cap : Nat), cs = [.slice (some a) len cap] ∧ len ≤ cap ∧ cap ≤ maxLen ∧
      ∀ i, i < len → ∀ (j : Nat) (f : Field), fs[j]? = some f → ∃ (v : Value) (n : Nat) (y : DataW H × List MemPlace), w.cell? (a.add (i * fs.size + j)) = some v ∧ DataW.trod enc P w base spare held n f.type [v] = some y ∧ ∀ m ∈ y.1.weights P f.type, m ∈ x.1.weights P t := by
  rcases DataW.trod_slice ht h with ⟨h0, _⟩ | ⟨a, len, cap, elems, rest, n, _, hcs, hx, hb, hl, hm, hel, hi, _, _⟩
  · exact .inl h0
  · refine .inr ⟨a, len, cap, hcs, hl, hm, fun i him j f hj => ?_⟩
    have h1 := hi i him
    have hlt : i < elems.length := by omega
    rw [List.getElem?_eq_getElem hlt] at h1
    cases hcells : w.cells? base (a.add (i * P.cellsOf e)) (P.cellsOf e) with
    | none => rw [hcells] at h1; simp at h1
    | some cs' =>
      rw [hcells] at h1
      simp only [Option.bind_some] at h1
      obtain ⟨hlen, hone'⟩ := trod_ones he hone hC h1
      obtain ⟨_, hcl, hat⟩ := World.cells?_some hcells
      have hjl : j < fs.size := (Array.getElem?_eq_some_iff.1 hj).1
      have hjc : j < cs'.length := by omega
      obtain ⟨xs, n', _, hx', hl', hlen', hg⟩ := DataW.trod_struct he h1
      obtain ⟨ho, hk⟩ := hone_of hone j f hj
      have h2 := hg j f hj
      have hcj : cs'[j]? = some cs'[j] := List.getElem?_eq_getElem hjc
      rw [ho, hk, take1_drop cs' j cs'[j] hjc, List.getD_eq_getElem?_getD, hcj, List.getElem?_eq_getElem (by omega)] at h2
      have hc := hat j (by omega)
      rw [List.getElem?_eq_getElem hjc, hC, Go.Deep.add_add] at hc
      refine ⟨_, n', _, hc, h2, fun m hm => ?_⟩
      rw [hx]
      simp only [DataW.weights, ht]
      refine List.mem_cons_of_mem _ (List.mem_append_left _ (weights_all (i := i) (d := (elems[i]).1) (by rw [List.getElem?_map, List.getElem?_eq_getElem hlt]; rfl) m ?_))
      rw [hx']
      simp only [DataW.weights, he]
      exact DataW.weights_mem_each (j := j) (t := f.type) (d := (xs[j]'(by omega)).1) (by simp [hj]) (by rw [List.getElem?_map, List.getElem?_eq_getElem (by omega)]; rfl) m hm
end

theorem bytes_len {P : Program} {H : Type} {enc : TypeId × Value → H} {w : World} {t e : TypeId} {y : DataW H × List MemPlace} {fuel : Nat} {a0 : Option Addr} {len0 cap0 : Nat} (ht : P.underlying t = some (.slice e)) (h1 : P.bytesOf e = 1)
    (h : DataW.trod enc P w 0 (fun _ => true) true fuel t [.slice a0 len0 cap0] = some y) (hw : ∀ m ∈ y.1.weights P t, m ≤ 140737488351232) : len0 ≤ 140737488351232 := by
  rcases DataW.trod_slice ht h with ⟨h0, _⟩ | ⟨a, len, cap, elems, rest, n, _, hcs, hx, _, _, _, hel, _, _, _⟩
  · simp at h0
    obtain ⟨_, rfl, _⟩ := h0
    simp
  · simp at hcs
    obtain ⟨_, rfl, _⟩ := hcs
    have := hw ((elems.length + rest.length) * P.bytesOf e) (by rw [hx]; simp [DataW.weights, ht])
    rw [h1, Nat.mul_one] at this
    omega

section
variable {H : Type} {enc : TypeId × Value → H} {w : World}
end
end Go.Proofs.YtpenejigebkkmaaGreat
