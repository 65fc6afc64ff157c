/-
  Layer 16: rows of relocations and of facts as they come in, and a copy of them.
  Conditions: none. (My own text.)
-/
import Derived.Test.YtpononkgeeahdaaOpen
import Derived.Test.YtpononkgeeahdaaReb
import Derived.Test.YtpononkgeeahdaaSp5
namespace Go.Proofs.Ytpononkgeeahdaa
open Go.ChangeShapes Go.WideShapes Go.ChangeAt Go.RowKit Go.Deep Spm
set_option linter.unusedVariables false
set_option linter.unusedSimpArgs false

section
variable {H : Type} {enc : TypeId × Value → H} {w : World}
theorem slice_len {P : Program} {t e : TypeId} {d : DataW H} {p : List MemPlace} {fuel : Nat} {a0 : Option Addr} {len0 cap0 : Nat} (ht : P.underlying t = some (.slice e))
    (h : DataW.trod enc P w 0 (fun _ => true) true fuel t [.slice a0 len0 cap0] = some (d, p)) (hw : ∀ m ∈ d.weights P t, m ≤ 140737488351232) : len0 * P.bytesOf e ≤ 140737488351232 := by
  rcases DataW.trod_slice ht h with ⟨h0, _⟩ | ⟨a, len, cap, elems, rest, n, _, hcs, hx, _, _, _, hel, _, _, _⟩
  · simp at h0
    obtain ⟨_, rfl, _⟩ := h0
    simp
  · simp at hcs
    obtain ⟨_, rfl, _⟩ := hcs
    simp only [Prod.mk.injEq] at hx
    have := hw ((elems.length + rest.length) * P.bytesOf e) (by rw [hx.1]; simp [DataW.weights, ht])
    rw [Nat.add_mul] at this
    rw [← hel]
    omega

set_option maxRecDepth 100000 in
theorem open_rels {t : TypeId} {r : Reach} {b0 : Nat} {v : Value} {d : DataW H} {p : List MemPlace} (ht : Try.prog.underlying t = some (.slice 24)) (hv : Value.okWide Try.prog w r b0 t v)
    (h : DataW.Trod enc Try.prog w 0 (fun _ => true) true t v d p) (hw : ∀ m ∈ d.weights Try.prog t, m ≤ 140737488351232) : ∃ l : List Rel, RowsAt 4 relC w (fun k => k < w.heap.size) v l ∧ l.length * Try.prog.bytesOf 24 ≤ 140737488351232 := by
  obtain ⟨a0, len0, cap0, rfl⟩ := okWide_slice ht hv
  obtain ⟨fuel, hf⟩ := h
  have hlen0 := slice_len ht (by simpa [Value.cells] using hf) hw
  rcases open_slice_ones ht Try.underlying24 (by kernel_rfl) (by kernel_rfl) (by simpa [Value.cells] using hf) with h0 | ⟨a, len, cap, hcs, hl, hm, hx⟩
  · simp at h0
    obtain ⟨rfl, rfl, rfl⟩ := h0
    exact ⟨[], ⟨_, _, rfl, Nat.le_refl _, Nat.zero_le _, fun i x hx => by simp at hx⟩, by simp⟩
  · simp at hcs
    obtain ⟨rfl, rfl, rfl⟩ := hcs
    obtain ⟨l, hlen, hq⟩ := list_of (Q := fun i (x : Rel) => ∀ (j : Nat) (u : Value), (relC x)[j]? = some u → w.cell? (a.add (i * 4 + j)) = some u) len0 (fun i hi => by
      obtain ⟨u0, n0, y0, g0, e0⟩ := hx i hi 0 _ rfl
      obtain ⟨x0, rfl, w0⟩ := int_cell Try.underlying3 e0
      obtain ⟨u1, n1, y1, g1, e1⟩ := hx i hi 1 _ rfl
      obtain ⟨x1, rfl, w1⟩ := int_cell Try.underlying22 e1
      obtain ⟨u2, n2, y2, g2, e2⟩ := hx i hi 2 _ rfl
      obtain ⟨x2, rfl, w2⟩ := int_cell Try.underlying3 e2
      obtain ⟨u3, n3, y3, g3, e3⟩ := hx i hi 3 _ rfl
      obtain ⟨x3, rfl, w3⟩ := int_cell Try.underlying3 e3
      refine ⟨⟨x0, x1, x2, x3⟩, fun j u hu => ?_⟩
      match j, hu with
      | 0, hu => simp [relC] at hu; subst hu; exact g0
      | 1, hu => simp [relC] at hu; subst hu; exact g1
      | 2, hu => simp [relC] at hu; subst hu; exact g2
      | 3, hu => simp [relC] at hu; subst hu; exact g3
      | j + 4, hu => simp [relC] at hu)
    refine ⟨l, ⟨some a, cap0, by rw [hlen], by omega, hm, fun i x hx => ?_⟩, by rw [hlen]; exact hlen0⟩
    have hc := hq i x hx
    obtain ⟨u0, hu0⟩ : ∃ u, (relC x)[0]? = some u := ⟨_, rfl⟩
    have hspot : a.spot = none := by
      obtain ⟨x0, hx0⟩ : ∃ x, l[0]? = some x := ⟨l[0]'(by have := (List.getElem?_eq_some_iff.1 hx).1; omega), List.getElem?_eq_getElem _⟩
      have := (hq 0 x0 hx0) 0 _ rfl
      exact World.cell?_spot (by simpa [Addr.add] using this)
    obtain ⟨b, off, spot⟩ := a
    simp only at hspot
    subst hspot
    have hat : ∀ j u, (relC x)[j]? = some u → w.cell? ⟨b, off + i * 4 + j, none⟩ = some u := fun j u hu => by
      have := hc j u hu
      rwa [Go.Addr.add_lit, ← Nat.add_assoc] at this
    exact ⟨b, off, rfl, World.block_lt_of_cell? _ _ (hat 0 u0 hu0), World.block_lt_of_cell? _ _ (hat 0 u0 hu0), hat⟩

set_option maxRecDepth 100000 in
theorem open_facts {t : TypeId} {r : Reach} {b0 : Nat} {v : Value} {d : DataW H} {p : List MemPlace} (ht : Try.prog.underlying t = some (.slice 26)) (hv : Value.okWide Try.prog w r b0 t v)
    (h : DataW.Trod enc Try.prog w 0 (fun _ => true) true t v d p) (hw : ∀ m ∈ d.weights Try.prog t, m ≤ 140737488351232) : ∃ l : List Fct, RowsAt 8 fctC w (fun k => k < w.heap.size) v l ∧ l.length * Try.prog.bytesOf 26 ≤ 140737488351232 ∧ ∀ f ∈ l, I64 f.addr ∧ I64 f.size := by
  obtain ⟨a0, len0, cap0, rfl⟩ := okWide_slice ht hv
  obtain ⟨fuel, hf⟩ := h
  have hlen0 := slice_len ht (by simpa [Value.cells] using hf) hw
  rcases open_slice_ones ht Try.underlying26 (by kernel_rfl) (by kernel_rfl) (by simpa [Value.cells] using hf) with h0 | ⟨a, len, cap, hcs, hl, hm, hx⟩
  · simp at h0
    obtain ⟨rfl, rfl, rfl⟩ := h0
    exact ⟨[], ⟨_, _, rfl, Nat.le_refl _, Nat.zero_le _, fun i x hx => by simp at hx⟩, by simp, fun f hf => by simp at hf⟩
  · simp at hcs
    obtain ⟨rfl, rfl, rfl⟩ := hcs
    obtain ⟨l, hlen, hq⟩ := list_of (Q := fun i (x : Fct) => (I64 x.addr ∧ I64 x.size) ∧ ∀ (j : Nat) (u : Value), (fctC x)[j]? = some u → w.cell? (a.add (i * 8 + j)) = some u) len0 (fun i hi => by
      obtain ⟨u0, n0, y0, g0, e0⟩ := hx i hi 0 _ rfl
      obtain ⟨x0, rfl, w0⟩ := int_cell Try.underlying3 e0
      obtain ⟨u1, n1, y1, g1, e1⟩ := hx i hi 1 _ rfl
      obtain ⟨x1, rfl, w1⟩ := int_cell Try.underlying3 e1
      obtain ⟨u2, n2, y2, g2, e2⟩ := hx i hi 2 _ rfl
      obtain ⟨x2, rfl, w2⟩ := int_cell Try.underlying3 e2
      obtain ⟨u3, n3, y3, g3, e3⟩ := hx i hi 3 _ rfl
      obtain ⟨x3, rfl, w3⟩ := int_cell Try.underlying3 e3
      obtain ⟨u4, n4, y4, g4, e4⟩ := hx i hi 4 _ rfl
      obtain ⟨x4, rfl, w4⟩ := int_cell Try.underlying3 e4
      obtain ⟨u5, n5, y5, g5, e5⟩ := hx i hi 5 _ rfl
      obtain ⟨x5, rfl, w5⟩ := int_cell Try.underlying3 e5
      obtain ⟨u6, n6, y6, g6, e6⟩ := hx i hi 6 _ rfl
      obtain ⟨x6, rfl⟩ := bool_cell Try.underlying4 e6
      obtain ⟨u7, n7, y7, g7, e7⟩ := hx i hi 7 _ rfl
      obtain ⟨x7, rfl⟩ := bool_cell Try.underlying4 e7
      refine ⟨⟨x0, x1, x2, x3, x4, x5, x6, x7⟩, ⟨i64_of w1, i64_of w2⟩, fun j u hu => ?_⟩
      match j, hu with
      | 0, hu => simp [fctC] at hu; subst hu; exact g0
      | 1, hu => simp [fctC] at hu; subst hu; exact g1
      | 2, hu => simp [fctC] at hu; subst hu; exact g2
      | 3, hu => simp [fctC] at hu; subst hu; exact g3
      | 4, hu => simp [fctC] at hu; subst hu; exact g4
      | 5, hu => simp [fctC] at hu; subst hu; exact g5
      | 6, hu => simp [fctC] at hu; subst hu; exact g6
      | 7, hu => simp [fctC] at hu; subst hu; exact g7
      | j + 8, hu => simp [fctC] at hu)
    refine ⟨l, ⟨some a, cap0, by rw [hlen], by omega, hm, fun i x hx => ?_⟩, by rw [hlen]; exact hlen0, fun f hf => by obtain ⟨i, hi⟩ := List.mem_iff_getElem?.1 hf; exact (hq i f hi).1⟩
    have hc := (hq i x hx).2
    obtain ⟨u0, hu0⟩ : ∃ u, (fctC x)[0]? = some u := ⟨_, rfl⟩
    have hspot : a.spot = none := by
      obtain ⟨x0, hx0⟩ : ∃ x, l[0]? = some x := ⟨l[0]'(by have := (List.getElem?_eq_some_iff.1 hx).1; omega), List.getElem?_eq_getElem _⟩
      have := (hq 0 x0 hx0).2 0 _ rfl
      exact World.cell?_spot (by simpa [Addr.add] using this)
    obtain ⟨b, off, spot⟩ := a
    simp only at hspot
    subst hspot
    have hat : ∀ j u, (fctC x)[j]? = some u → w.cell? ⟨b, off + i * 8 + j, none⟩ = some u := fun j u hu => by
      have := hc j u hu
      rwa [Go.Addr.add_lit, ← Nat.add_assoc] at this
    exact ⟨b, off, rfl, World.block_lt_of_cell? _ _ (hat 0 u0 hu0), World.block_lt_of_cell? _ _ (hat 0 u0 hu0), hat⟩
end

theorem flat_len {α : Type} {n : Nat} {cells : α → List Value} (hc : ∀ x, (cells x).length = n) : ∀ l : List α, (l.flatMap cells).length = l.length * n
  | [] => by simp
  | y :: l => by rw [List.flatMap_cons, List.length_append, hc, flat_len hc l, List.length_cons, Nat.add_mul, Nat.one_mul, Nat.add_comm]
theorem flat_snoc {α : Type} {cells : α → List Value} (l : List α) (k : Nat) (x : α) (h : l[k]? = some x) : (l.take (k + 1)).flatMap cells = (l.take k).flatMap cells ++ cells x := by
  obtain ⟨hk, he⟩ := List.getElem?_eq_some_iff.1 h
  rw [List.take_succ_eq_append_getElem hk, List.flatMap_append, he]
  simp
theorem flat_inv {α : Type} {n : Nat} {cells : α → List Value} (hc : ∀ x, (cells x).length = n) : ∀ (l : List α) (j : Nat) (u : Value), (l.flatMap cells)[j]? = some u → ∃ i x j', l[i]? = some x ∧ (cells x)[j']? = some u ∧ j = i * n + j'
  | [], j, u, h => by simp at h
  | y :: l, j, u, h => by
    rw [List.flatMap_cons] at h
    rcases Nat.lt_or_ge j (cells y).length with hl | hl
    · rw [List.getElem?_append_left hl] at h
      exact ⟨0, y, j, rfl, h, by simp⟩
    · rw [List.getElem?_append_right hl] at h
      obtain ⟨i, x, j', h1, h2, h3⟩ := flat_inv hc l _ u h
      refine ⟨i + 1, x, j', by simpa using h1, h2, ?_⟩
      rw [hc] at h3 hl
      rw [Nat.add_mul, Nat.one_mul]
      omega
theorem RowsAt.of_own {α : Type} {n : Nat} {cells : α → List Value} (hc : ∀ x, (cells x).length = n) {w : World} {base : Nat} {T : TypeId} {v : Value} {l : List α} (h : w.ownsRow base T n v l.length (l.flatMap cells)) : RowsAt n cells w (fun k => v.ownBlock = some k) v l := by
  rcases h.2 with ⟨hv, hn⟩ | ⟨g, cap, cur, hv, hb, hg, hl, hm, hs, ht⟩
  · exact ⟨none, 0, by rw [hv, hn], by omega, Nat.zero_le _, fun i x hx => by rw [List.eq_nil_of_length_eq_zero hn] at hx; simp at hx⟩
  · refine ⟨some ⟨g, 0, none⟩, cap, hv, hl, hm, fun i x hx => ⟨g, 0, rfl, by rw [hv]; rfl, (Array.getElem?_eq_some_iff.1 hg).1, fun j u hu => ?_⟩⟩
    have := h.cells (g := g) (by rw [hv]; rfl) _ _ (flat_get hc l i x hx j u hu)
    rwa [Addr.add_lit, ← Nat.add_assoc] at this
theorem Has.owned {α : Type} {n : Nat} {cells : α → List Value} (hc : ∀ x, (cells x).length = n) {B : Nat} {w wr w' : World} {X : Res} [Fr X] (h : Has B w wr X) {T : TypeId} {v : Value} {l : List α} (ho : w'.ownsRow wr.heap.size T n v l.length (l.flatMap cells)) (hb : Below wr.heap.size wr w') : Has B w w' (Star (Rw n cells v l) X) :=
  h.add hb ((RowsAt.of_own hc ho).mono fun k hk _ => (ho.lt k hk).1)
set_option maxRecDepth 100000 in
/-- append(nil, rows...) -/
theorem rels_append {w : World} {Pb : Nat → Prop} {A : Option Addr} {c : Nat} {l : List Rel} (h : RowsAt 4 relC w Pb (.slice A l.length c) l) (hb : l.length * 32 ≤ 140737488351232) (ty : TypeId) :
    ∃ v' w', (Builtin.append_ #[40, 40] ty #[.slice none 0 0, .slice A l.length c]).run Try.prog w = .ok v' w' ∧ w'.ownsRow w.heap.size 24 4 v' l.length (l.flatMap relC) ∧ Below w.heap.size w w' := by
  have hinfo : (Try.prog.info? 24).map (fun i => (i.zero, i.size, i.bytes)) = some (some (.agg #[.int .i64 0, .int .i64 0, .int .i64 0, .int .i64 0]), 4, 32) := by kernel_rfl
  obtain ⟨i0, hi, hz0, hz1, hz2⟩ := info_parts hinfo
  obtain ⟨A', c', hv, hlc, hm, hrow⟩ := h
  simp only [Value.slice.injEq, true_and] at hv
  obtain ⟨rfl, rfl⟩ := hv
  have hone : ∀ u ∈ l.flatMap relC, u.oneCell' = true := by
    intro u hu
    obtain ⟨r, _, hr⟩ := List.mem_flatMap.1 hu
    simp only [relC, List.mem_cons, List.not_mem_nil, or_false] at hr
    rcases hr with rfl | rfl | rfl | rfl <;> rfl
  cases A with
  | none =>
    obtain rfl : l = [] := by
      cases l with
      | nil => rfl
      | cons x l => obtain ⟨b, off, h1, _⟩ := hrow 0 x rfl; cases h1
    refine ⟨.slice none 0 0, w, ?_, World.ownsRow_nil _ _ _ _, Below.refl _ _⟩
    simp [Builtin.append_, run_underlying Try.underlying40, sizeOf, typeInfo, hi, Builtin.lenOf, Builtin.firstCells, storeCells, loadCells]
  | some a =>
    obtain ⟨v', w', h1, h2, h3, _⟩ := run_append_own (P := Try.prog) (w := w) w.heap.size 40 ty 24 i0 _ 4 32 Try.underlying40 hi hz0 hz1 hz2 rfl (by decide) (.slice none 0 0) 0 [] (World.ownsRow_nil _ _ _ _)
      a l.length c (l.flatMap relC) (flat_len (n := 4) (cells := relC) (fun _ => rfl) l) (fun j u hj => by
        obtain ⟨i, x, j', e1, e2, rfl⟩ := flat_inv (n := 4) (cells := relC) (fun _ => rfl) l j u hj
        obtain ⟨b, off, h1, _, _, h4⟩ := hrow i x e1
        simp only [Option.some.injEq] at h1
        subst h1
        rw [Addr.add_lit, ← Nat.add_assoc]
        exact h4 j' u e2) hone (by unfold maxLen; omega) (by omega) (Nat.le_refl _)
    exact ⟨v', w', h1, by simpa using h2, (Below.refl _ _).grown h3 (Nat.le_refl _) (by intro k hk; simp [Value.ownBlock] at hk)⟩
end Go.Proofs.Ytpononkgeeahdaa
