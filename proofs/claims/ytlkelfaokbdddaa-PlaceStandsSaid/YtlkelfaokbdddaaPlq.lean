/-
  Layer 15: segments in memory; how a slice of them comes in.
  Conditions: none. (My own text.)
-/
import Derived.Test.YtlkelfaokbdddaaPlp
import Derived.Test.YtlkelfaokbdddaaOpen
import Derived.Test.YtlkelfaokbdddaaSp5
namespace Go.Proofs.Ytlkelfaokbdddaa
open Go.ChangeShapes Go.WideShapes Go.ChangeAt Go.RowKit Go.Deep Spm
set_option linter.unusedVariables false
set_option linter.unusedSimpArgs false

def segC (s : Sg) : List Value := [.int .i64 s.at_, .int .i64 s.sz, .slice s.A s.b.length s.c, .int .i64 s.pm]
def SegB (w : World) (P : Nat → Prop) (s : Sg) : Prop := s.b ≠ [] → ∃ bb off, s.A = some ⟨bb, off, none⟩ ∧ P bb ∧ bb < w.heap.size ∧ ∀ j x, s.b[j]? = some x → w.cell? ⟨bb, off + j, none⟩ = some (byC x)
/-- Segments that came in, below a block. -/
structure SegsAt (w : World) (P : Nat → Prop) (v : Value) (l : List Sg) : Prop where
  rows : RowsAt 4 segC w P v l
  bys : ∀ s ∈ l, SegB w P s
  rng : ∀ s ∈ l, I64 s.at_ ∧ I64 s.sz ∧ I64 s.pm ∧ s.b.length ≤ maxLen
theorem SegB.keep {w w' : World} {P : Nat → Prop} {s : Sg} (h : SegB w P s) (hk : ∀ k, P k → k < w.heap.size → w'.heap[k]? = w.heap[k]?) : SegB w' P s := fun hn => by
  obtain ⟨bb, off, h1, h2, h3, h4⟩ := h hn
  have hb := hk bb h2 h3
  refine ⟨bb, off, h1, h2, ?_, fun j x hj => ?_⟩
  · rcases Nat.lt_or_ge bb w'.heap.size with h | h
    · exact h
    · rw [Array.getElem?_eq_none h, Array.getElem?_eq_getElem h3] at hb; cases hb
  · rw [World.cell?_of_block (a := ⟨bb, off + j, none⟩) hb]; exact h4 j x hj
theorem SegsAt.keep {w w' : World} {P : Nat → Prop} {v : Value} {l : List Sg} (h : SegsAt w P v l) (hk : ∀ k, P k → k < w.heap.size → w'.heap[k]? = w.heap[k]?) : SegsAt w' P v l := ⟨h.rows.keep hk, fun s hs => (h.bys s hs).keep hk, h.rng⟩
theorem SegsAt.below {w w' : World} {B : Nat} {v : Value} {l : List Sg} (h : SegsAt w (fun k => k < B) v l) (hb : Below B w w') : SegsAt w' (fun k => k < B) v l := h.keep fun k hk _ => hb.block k hk
theorem SegB.src {w : World} {P : Nat → Prop} {s : Sg} (h : SegB w P s) : SrcB w s.A s.b := fun hn => by
  obtain ⟨bb, off, h1, _, _, h4⟩ := h hn
  exact ⟨bb, off, h1, h4⟩
/-- The first ones of them. -/
theorem RowsAt.first {α : Type} {n : Nat} {cells : α → List Value} {w : World} {P : Nat → Prop} {A : Option Addr} {m c : Nat} {l : List α} (h : RowsAt n cells w P (.slice A m c) l) (k : Nat) (hk : k ≤ l.length) : RowsAt n cells w P (.slice A k c) (l.take k) := by
  obtain ⟨A', c', h1, h2, h3, h4⟩ := h
  simp only [Value.slice.injEq] at h1
  obtain ⟨rfl, rfl, rfl⟩ := h1
  refine ⟨A, c, by rw [List.length_take, Nat.min_eq_left hk], by rw [List.length_take]; omega, h3, fun i x hx => ?_⟩
  rw [List.getElem?_take] at hx
  split at hx
  · exact h4 i x hx
  · cases hx
theorem SegsAt.first {w : World} {P : Nat → Prop} {A : Option Addr} {m c : Nat} {l : List Sg} (h : SegsAt w P (.slice A m c) l) (k : Nat) (hk : k ≤ l.length) : SegsAt w P (.slice A k c) (l.take k) :=
  ⟨h.rows.first k hk, fun s hs => h.bys s (List.mem_of_mem_take hs), fun s hs => h.rng s (List.mem_of_mem_take hs)⟩

section
variable {H : Type} {enc : TypeId × Value → H} {w : World}
set_option maxRecDepth 100000 in
theorem open_segs {t : TypeId} {r : Reach} {b0 : Nat} {v : Value} {d : DataW H} {p : List MemPlace} (ht : Try.prog.underlying t = some (.slice 50)) (hv : Value.okWide Try.prog w r b0 t v)
    (h : DataW.Trod enc Try.prog w 0 (fun _ => true) true t v d p) : ∃ l : List Sg, SegsAt w (fun k => k < w.heap.size) v l := by
  obtain ⟨a0, len0, cap0, rfl⟩ := okWide_slice ht hv
  obtain ⟨fuel, hf⟩ := h
  rcases open_slice_ones ht Try.underlying50 (by kernel_rfl) (by kernel_rfl) (by simpa [Value.cells] using hf) with h0 | ⟨a, len, cap, hcs, hl, hm, hx⟩
  · simp at h0
    obtain ⟨rfl, rfl, rfl⟩ := h0
    exact ⟨[], ⟨_, _, rfl, Nat.le_refl _, Nat.zero_le _, fun i x hx => by simp at hx⟩, by simp, by simp⟩
  · simp at hcs
    obtain ⟨rfl, rfl, rfl⟩ := hcs
    obtain ⟨l, hlen, hq⟩ := list_of (Q := fun i (x : Sg) => ((I64 x.at_ ∧ I64 x.sz ∧ I64 x.pm ∧ x.b.length ≤ maxLen) ∧ BytesAt w w.heap.size x.A x.b) ∧ ∀ (j : Nat) (u : Value), (segC x)[j]? = some u → w.cell? (a.add (i * 4 + j)) = some u) len0 (fun i hi => by
      obtain ⟨u0, n0, y0, g0, e0⟩ := hx i hi 0 _ rfl
      obtain ⟨x0, rfl, w0⟩ := int_cell Try.underlying3 e0
      obtain ⟨u1, n1, y1, g1, e1⟩ := hx i hi 1 _ rfl
      obtain ⟨x1, rfl, w1⟩ := int_cell Try.underlying3 e1
      obtain ⟨u2, n2, y2, g2, e2⟩ := hx i hi 2 _ rfl
      obtain ⟨A, b, c, rfl, hbl, hba⟩ := open_bytes Try.underlying37 e2
      obtain ⟨u3, n3, y3, g3, e3⟩ := hx i hi 3 _ rfl
      obtain ⟨x3, rfl, w3⟩ := int_cell Try.underlying48 e3
      refine ⟨⟨x0, x1, b, A, c, x3⟩, ⟨⟨i64_of w0, i64_of w1, i64_of w3, hbl⟩, hba⟩, fun j u hu => ?_⟩
      match j, hu with
      | 0, hu => simp [segC] at hu; subst hu; exact g0
      | 1, hu => simp [segC] at hu; subst hu; exact g1
      | 2, hu => simp [segC] at hu; subst hu; exact g2
      | 3, hu => simp [segC] at hu; subst hu; exact g3
      | j + 4, hu => simp [segC] at hu)
    have hmem : ∀ s ∈ l, (I64 s.at_ ∧ I64 s.sz ∧ I64 s.pm ∧ s.b.length ≤ maxLen) ∧ BytesAt w w.heap.size s.A s.b := fun s hs => by
      obtain ⟨i, hi⟩ := List.mem_iff_getElem?.1 hs
      exact (hq i s hi).1
    refine ⟨l, ⟨some a, cap0, by rw [hlen], by omega, hm, fun i x hx => ?_⟩, fun s hs hn => ?_, fun s hs => (hmem s hs).1⟩
    · have hc := (hq i x hx).2
      obtain ⟨u0, hu0⟩ : ∃ u, (segC x)[0]? = some u := ⟨_, rfl⟩
      have hspot : a.spot = none := by
        obtain ⟨x0, hx0⟩ : ∃ x, l[0]? = some x := ⟨l[0]'(by have := (List.getElem?_eq_some_iff.1 hx).1; omega), List.getElem?_eq_getElem _⟩
        have := (hq 0 x0 hx0).2 0 _ rfl
        exact World.cell?_spot (by simpa [Addr.add] using this)
      obtain ⟨b, off, spot⟩ := a
      simp only at hspot
      subst hspot
      have hat : ∀ j u, (segC x)[j]? = some u → w.cell? ⟨b, off + i * 4 + j, none⟩ = some u := fun j u hu => by
        have := hc j u hu
        rwa [Go.Addr.add_lit, ← Nat.add_assoc] at this
      exact ⟨b, off, rfl, World.block_lt_of_cell? _ _ (hat 0 u0 hu0), World.block_lt_of_cell? _ _ (hat 0 u0 hu0), hat⟩
    · obtain ⟨bb, off, h1, h2, h3⟩ := (hmem s hs).2 hn
      exact ⟨bb, off, h1, h2, h2, h3⟩
end
end Go.Proofs.Ytlkelfaokbdddaa
