/-
  Layer 7: how a list of symbols comes in.
  Conditions: none. (My own text.)
-/
import Derived.Test.YthajdklmklaelaaOpen
import Derived.Test.YthajdklmklaelaaSyx
namespace Go.Proofs.Ythajdklmklaelaa
open Go.ChangeShapes Go.WideShapes Go.ChangeAt Go.RowKit Go.Deep
set_option linter.unusedVariables false
set_option linter.unusedSimpArgs false

section
variable {H : Type} {enc : TypeId × Value → H} {w : World}

theorem open_syms {t : TypeId} {r : Reach} {b0 : Nat} {v : Value} {d : DataW H} {p : List MemPlace} (ht : Try.prog.underlying t = some (.slice 26)) (hv : Value.okWide Try.prog w r b0 t v)
    (h : DataW.Trod enc Try.prog w 0 (fun _ => true) true t v d p) : ∃ l, SymsV w v l := by
  obtain ⟨a0, len0, cap0, rfl⟩ := okWide_slice ht hv
  obtain ⟨fuel, hf⟩ := h
  rcases open_slice_ones ht Try.underlying26 (by kernel_rfl) (by kernel_rfl) (by simpa [Value.cells] using hf) with h0 | ⟨a, len, cap, hcs, hl, hm, hx⟩
  · simp at h0
    obtain ⟨rfl, rfl, rfl⟩ := h0
    exact ⟨[], .inl ⟨_, _, rfl, rfl⟩⟩
  · simp at hcs
    obtain ⟨rfl, rfl, rfl⟩ := hcs
    rcases Nat.eq_zero_or_pos len0 with hz | hpos
    · subst hz
      exact ⟨[], .inl ⟨_, _, rfl, rfl⟩⟩
    obtain ⟨l, hlen, hq⟩ := list_of (Q := fun i (x : SymD) => ∀ (j : Nat) (u : Value), x.cells[j]? = some u → w.cell? (a.add (i * 9 + j)) = some u) len0 (fun i hi => by
      obtain ⟨u0, n0, y0, g0, e0⟩ := hx i hi 0 _ rfl
      obtain ⟨x0, rfl, w0⟩ := string_cell Try.underlying9 e0
      obtain ⟨u1, n1, y1, g1, e1⟩ := hx i hi 1 _ rfl
      obtain ⟨x1, rfl, w1⟩ := string_cell Try.underlying9 e1
      obtain ⟨u2, n2, y2, g2, e2⟩ := hx i hi 2 _ rfl
      obtain ⟨x2, rfl⟩ := bool_cell Try.underlying4 e2
      obtain ⟨u3, n3, y3, g3, e3⟩ := hx i hi 3 _ rfl
      obtain ⟨x3, rfl, w3⟩ := int_cell Try.underlying23 e3
      obtain ⟨u4, n4, y4, g4, e4⟩ := hx i hi 4 _ rfl
      obtain ⟨x4, rfl⟩ := bool_cell Try.underlying4 e4
      obtain ⟨u5, n5, y5, g5, e5⟩ := hx i hi 5 _ rfl
      obtain ⟨x5, rfl, w5⟩ := int_cell Try.underlying24 e5
      obtain ⟨u6, n6, y6, g6, e6⟩ := hx i hi 6 _ rfl
      obtain ⟨x6, rfl⟩ := bool_cell Try.underlying4 e6
      obtain ⟨u7, n7, y7, g7, e7⟩ := hx i hi 7 _ rfl
      obtain ⟨x7, rfl, w7⟩ := int_cell Try.underlying3 e7
      obtain ⟨u8, n8, y8, g8, e8⟩ := hx i hi 8 _ rfl
      obtain ⟨x8, rfl, w8⟩ := int_cell Try.underlying3 e8
      refine ⟨⟨x0, x1, x2, x3, x4, x5, x6, x7, x8⟩, fun j u hu => ?_⟩
      match j, hu with
      | 0, hu => simp [SymD.cells] at hu; subst hu; exact g0
      | 1, hu => simp [SymD.cells] at hu; subst hu; exact g1
      | 2, hu => simp [SymD.cells] at hu; subst hu; exact g2
      | 3, hu => simp [SymD.cells] at hu; subst hu; exact g3
      | 4, hu => simp [SymD.cells] at hu; subst hu; exact g4
      | 5, hu => simp [SymD.cells] at hu; subst hu; exact g5
      | 6, hu => simp [SymD.cells] at hu; subst hu; exact g6
      | 7, hu => simp [SymD.cells] at hu; subst hu; exact g7
      | 8, hu => simp [SymD.cells] at hu; subst hu; exact g8
      | j + 9, hu => simp [SymD.cells] at hu)
    have hspot : a.spot = none := by
      obtain ⟨x, hx0⟩ : ∃ x, l[0]? = some x := ⟨l[0]'(by omega), List.getElem?_eq_getElem (by omega)⟩
      have := hq 0 x hx0 0 _ rfl
      exact World.cell?_spot (by simpa [Addr.add] using this)
    obtain ⟨b, off, spot⟩ := a
    simp only at hspot
    subst hspot
    have hat : SymsAt w b off l := fun i x hx j u hu => by
      have := hq i x hx j u hu
      rwa [Go.Addr.add_lit, ← Nat.add_assoc] at this
    refine ⟨l, .inr ⟨b, off, cap0, by rw [hlen], ?_, by omega, hat⟩⟩
    obtain ⟨x, hx0⟩ : ∃ x, l[0]? = some x := ⟨l[0]'(by omega), List.getElem?_eq_getElem (by omega)⟩
    exact World.block_lt_of_cell? _ _ (hat 0 x hx0 0 _ rfl)
end
end Go.Proofs.Ythajdklmklaelaa
