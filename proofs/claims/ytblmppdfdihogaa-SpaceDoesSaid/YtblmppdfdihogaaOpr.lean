/-
  Slices of structs that come in, with what each field weighs; acts with the sizes of their bytes.
  Conditions: none. (My own text.)
-/
import Derived.Test.YtblmppdfdihogaaOpen
import Derived.Test.YtblmppdfdihogaaSp5
namespace Go.Proofs.Ytblmppdfdihogaa
open Go.ChangeShapes Go.WideShapes Go.ChangeAt Go.RowKit Go.Deep Spm
set_option linter.unusedVariables false
set_option linter.unusedSimpArgs false

theorem weights_all {H : Type} {P : Program} {e : TypeId} : ∀ {ds : List (DataW H)} {i : Nat} {d : DataW H}, ds[i]? = some d → ∀ m ∈ d.weights P e, m ∈ DataW.weightsAll P e ds
  | [], i, d, h => by simp at h
  | d0 :: ds, 0, d, h => fun m hm => by
    simp at h; subst h
    unfold DataW.weightsAll
    exact List.mem_append_left _ hm
  | d0 :: ds, i + 1, d, h => fun m hm => by
    unfold DataW.weightsAll
    exact List.mem_append_right _ (weights_all (by simpa using h) m hm)

section
variable {H : Type} {enc : TypeId × Value → H} {P : Program} {w : World} {base : Nat} {spare : Nat → Bool} {held : Bool}
set_option maxRecDepth 100000 in
theorem open_slice_onesR {t e : TypeId} {fs : Array Field} {fuel : Nat} {cs : List Value} {x : DataW H × List MemPlace} (ht : P.underlying t = some (.slice e)) (he : P.underlying e = some (.struct fs))
    (hone : oneCellFields P fs = true) (hC : P.cellsOf e = fs.size) (h : DataW.trod enc P w base spare held fuel t cs = some x) :
    cs = [.slice none 0 0] ∨
    ∃ (a : Addr) (len cap : Nat), cs = [.slice (some a) len cap] ∧ len ≤ cap ∧ cap ≤ maxLen ∧
      ∀ i, i < len → ∀ (j : Nat) (f : Field), fs[j]? = some f → ∃ (v : Value) (n : Nat) (y : DataW H × List MemPlace), w.cell? (a.add (i * fs.size + j)) = some v ∧ DataW.trod enc P w base spare held n f.type [v] = some y ∧ ∀ m ∈ y.1.weights P f.type, m ∈ x.1.weights P t := by
  rcases DataW.trod_slice ht h with ⟨h0, _⟩ | ⟨a, len, cap, elems, rest, n, _, hcs, hx, hb, hl, hm, hel, hi, _, _⟩
  · exact .inl h0
  · refine .inr ⟨a, len, cap, hcs, hl, hm, fun i him j f hj => ?_⟩
    have h1 := hi i him
    have hlt : i < elems.length := by omega
    rw [List.getElem?_eq_getElem hlt] at h1
    cases hcells : w.cells? base (a.add (i * P.cellsOf e)) (P.cellsOf e) with
    | none => rw [hcells] at h1; simp at h1
    | some cs' =>
      rw [hcells] at h1
      simp only [Option.bind_some] at h1
      obtain ⟨hlen, hone'⟩ := trod_ones he hone hC h1
      obtain ⟨_, hcl, hat⟩ := World.cells?_some hcells
      have hjl : j < fs.size := (Array.getElem?_eq_some_iff.1 hj).1
      have hjc : j < cs'.length := by omega
      obtain ⟨xs, n', _, hx', hl', hlen', hg⟩ := DataW.trod_struct he h1
      obtain ⟨ho, hk⟩ := hone_of hone j f hj
      have h2 := hg j f hj
      have hcj : cs'[j]? = some cs'[j] := List.getElem?_eq_getElem hjc
      rw [ho, hk, take1_drop cs' j cs'[j] hjc, List.getD_eq_getElem?_getD, hcj, List.getElem?_eq_getElem (by omega)] at h2
      have hc := hat j (by omega)
      rw [List.getElem?_eq_getElem hjc, hC, Go.Deep.add_add] at hc
      refine ⟨_, n', _, hc, h2, fun m hm => ?_⟩
      rw [hx]
      simp only [DataW.weights, ht]
      refine List.mem_cons_of_mem _ (List.mem_append_left _ (weights_all (i := i) (d := (elems[i]).1) (by rw [List.getElem?_map, List.getElem?_eq_getElem hlt]; rfl) m ?_))
      rw [hx']
      simp only [DataW.weights, he]
      exact DataW.weights_mem_each (j := j) (t := f.type) (d := (xs[j]'(by omega)).1) (by simp [hj]) (by rw [List.getElem?_map, List.getElem?_eq_getElem (by omega)]; rfl) m hm
end

theorem bytes_len {P : Program} {H : Type} {enc : TypeId × Value → H} {w : World} {t e : TypeId} {y : DataW H × List MemPlace} {fuel : Nat} {a0 : Option Addr} {len0 cap0 : Nat} (ht : P.underlying t = some (.slice e)) (h1 : P.bytesOf e = 1)
    (h : DataW.trod enc P w 0 (fun _ => true) true fuel t [.slice a0 len0 cap0] = some y) (hw : ∀ m ∈ y.1.weights P t, m ≤ 140737488351232) : len0 ≤ 140737488351232 := by
  rcases DataW.trod_slice ht h with ⟨h0, _⟩ | ⟨a, len, cap, elems, rest, n, _, hcs, hx, _, _, _, hel, _, _, _⟩
  · simp at h0
    obtain ⟨_, rfl, _⟩ := h0
    simp
  · simp at hcs
    obtain ⟨_, rfl, _⟩ := hcs
    have := hw ((elems.length + rest.length) * P.bytesOf e) (by rw [hx]; simp [DataW.weights, ht])
    rw [h1, Nat.mul_one] at this
    omega

section
variable {H : Type} {enc : TypeId × Value → H} {w : World}
set_option maxRecDepth 100000 in
theorem open_actsR {t : TypeId} {r : Reach} {b0 : Nat} {v : Value} {d : DataW H} {p : List MemPlace} (ht : Try.prog.underlying t = some (.slice 51)) (hv : Value.okWide Try.prog w r b0 t v)
    (h : DataW.Trod enc Try.prog w 0 (fun _ => true) true t v d p) (hw : ∀ m ∈ d.weights Try.prog t, m ≤ 140737488351232) : ∃ l, ActsV w w.heap.size v l ∧ ∀ m ∈ l, m.x.b.length ≤ 140737488351232 := by
  obtain ⟨a0, len0, cap0, rfl⟩ := okWide_slice ht hv
  obtain ⟨fuel, hf⟩ := h
  rcases open_slice_onesR ht Try.underlying51 (by kernel_rfl) (by kernel_rfl) (by simpa [Value.cells] using hf) with h0 | ⟨a, len, cap, hcs, hl, hm, hx⟩
  · simp at h0
    obtain ⟨rfl, rfl, rfl⟩ := h0
    exact ⟨[], .inl ⟨_, _, rfl, rfl⟩, by simp⟩
  · simp at hcs
    obtain ⟨rfl, rfl, rfl⟩ := hcs
    rcases Nat.eq_zero_or_pos len0 with hz | hpos
    · subst hz
      exact ⟨[], .inl ⟨_, _, rfl, rfl⟩, by simp⟩
    obtain ⟨l, hlen, hq⟩ := list_of (Q := fun i (x : ActM) => x.x.b.length ≤ 140737488351232 ∧ ActOk w w.heap.size x ∧ ∀ (j : Nat) (u : Value), x.cells[j]? = some u → w.cell? (a.add (i * 5 + j)) = some u) len0 (fun i hi => by
      obtain ⟨u0, n0, y0, g0, e0, _⟩ := hx i hi 0 _ rfl
      obtain ⟨x0, rfl, w0⟩ := int_cell Try.underlying3 e0
      obtain ⟨u1, n1, y1, g1, e1, _⟩ := hx i hi 1 _ rfl
      obtain ⟨x1, rfl, w1⟩ := int_cell Try.underlying3 e1
      obtain ⟨u2, n2, y2, g2, e2, _⟩ := hx i hi 2 _ rfl
      obtain ⟨x2, rfl, w2⟩ := int_cell Try.underlying3 e2
      obtain ⟨u3, n3, y3, g3, e3, _⟩ := hx i hi 3 _ rfl
      obtain ⟨x3, rfl, w3⟩ := int_cell Try.underlying28 e3
      obtain ⟨u4, n4, y4, g4, e4, m4⟩ := hx i hi 4 _ rfl
      obtain ⟨A, b, c, rfl, hbl, hba⟩ := open_bytes Try.underlying32 e4
      have hbs := bytes_len Try.underlying32 (by kernel_rfl) e4 (fun m hm => hw m (m4 m hm))
      refine ⟨⟨⟨x0, x1, x2, x3, b⟩, A, c⟩, hbs, ⟨⟨i64_of w1, i64_of w2, i64_of w3, hbl⟩, hba⟩, fun j u hu => ?_⟩
      match j, hu with
      | 0, hu => simp [ActM.cells] at hu; subst hu; exact g0
      | 1, hu => simp [ActM.cells] at hu; subst hu; exact g1
      | 2, hu => simp [ActM.cells] at hu; subst hu; exact g2
      | 3, hu => simp [ActM.cells] at hu; subst hu; exact g3
      | 4, hu => simp [ActM.cells] at hu; subst hu; exact g4
      | j + 5, hu => simp [ActM.cells] at hu)
    have hspot : a.spot = none := by
      obtain ⟨x, hx0⟩ : ∃ x, l[0]? = some x := ⟨l[0]'(by omega), List.getElem?_eq_getElem (by omega)⟩
      have := (hq 0 x hx0).2.2 0 _ rfl
      exact World.cell?_spot (by simpa [Addr.add] using this)
    obtain ⟨b, off, spot⟩ := a
    simp only at hspot
    subst hspot
    have hat : ∀ i m, l[i]? = some m → ∀ j u, m.cells[j]? = some u → w.cell? ⟨b, off + i * 5 + j, none⟩ = some u := fun i x hx j u hu => by
      have := (hq i x hx).2.2 j u hu
      rwa [Go.Addr.add_lit, ← Nat.add_assoc] at this
    refine ⟨l, .inr ⟨b, off, cap0, by rw [hlen], ?_, by omega, fun i m hi => ⟨(hq i m hi).2.1, hat i m hi⟩⟩, fun m hm => by obtain ⟨i, hi⟩ := List.mem_iff_getElem?.1 hm; exact (hq i m hi).1⟩
    obtain ⟨x, hx0⟩ : ∃ x, l[0]? = some x := ⟨l[0]'(by omega), List.getElem?_eq_getElem (by omega)⟩
    exact World.block_lt_of_cell? _ _ (hat 0 x hx0 0 _ rfl)
end
end Go.Proofs.Ytblmppdfdihogaa
