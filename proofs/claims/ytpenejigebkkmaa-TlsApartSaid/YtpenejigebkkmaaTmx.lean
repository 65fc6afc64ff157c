/-
  Layer 17: how a script comes in.
  Conditions: none. (My own text.)
-/
import Derived.Test.YtpenejigebkkmaaTmr
import Derived.Test.YtpenejigebkkmaaOpr
namespace Go.Proofs.Ytpenejigebkkmaa
open Go.ChangeShapes Go.WideShapes Go.ChangeAt Go.RowKit Go.Deep Spm
set_option linter.unusedVariables false
set_option linter.unusedSimpArgs false
section
variable {H : Type} {enc : TypeId × Value → H} {w : World}
set_option maxRecDepth 100000 in
theorem open_tacts {t : TypeId} {r : Reach} {b0 : Nat} {v : Value} {d : DataW H} {p : List MemPlace} (ht : Try.prog.underlying t = some (.slice 57)) (hv : Value.okWide Try.prog w r b0 t v)
    (h : DataW.Trod enc Try.prog w 0 (fun _ => true) true t v d p) (hw : ∀ m ∈ d.weights Try.prog t, m ≤ 140737488351232) : ∃ l, TActsV w w.heap.size v l := by
  obtain ⟨a0, len0, cap0, rfl⟩ := okWide_slice ht hv
  obtain ⟨fuel, hf⟩ := h
  rcases open_slice_onesR ht Try.underlying57 (by kernel_rfl) (by kernel_rfl) (by simpa [Value.cells] using hf) with h0 | ⟨a, len, cap, hcs, hl, hm, hx⟩
  · simp at h0
    obtain ⟨rfl, rfl, rfl⟩ := h0
    exact ⟨[], .inl ⟨_, _, rfl, rfl⟩⟩
  · simp at hcs
    obtain ⟨rfl, rfl, rfl⟩ := hcs
    rcases Nat.eq_zero_or_pos len0 with hz | hpos
    · subst hz
      exact ⟨[], .inl ⟨_, _, rfl, rfl⟩⟩
    obtain ⟨l, hlen, hq⟩ := list_of (Q := fun i (x : TActM) => TActOk w w.heap.size x ∧ ∀ (j : Nat) (u : Value), x.cells[j]? = some u → w.cell? (a.add (i * 6 + j)) = some u) len0 (fun i hi => by
      obtain ⟨u0, n0, y0, g0, e0, _⟩ := hx i hi 0 _ rfl
      obtain ⟨x0, rfl, w0⟩ := int_cell Try.underlying3 e0
      obtain ⟨u1, n1, y1, g1, e1, _⟩ := hx i hi 1 _ rfl
      obtain ⟨x1, rfl, w1⟩ := int_cell Try.underlying3 e1
      obtain ⟨u2, n2, y2, g2, e2, _⟩ := hx i hi 2 _ rfl
      obtain ⟨x2, rfl, w2⟩ := int_cell Try.underlying3 e2
      obtain ⟨u3, n3, y3, g3, e3, _⟩ := hx i hi 3 _ rfl
      obtain ⟨x3, rfl, w3⟩ := int_cell Try.underlying3 e3
      obtain ⟨u4, n4, y4, g4, e4, _⟩ := hx i hi 4 _ rfl
      obtain ⟨x4, rfl⟩ := bool_cell Try.underlying4 e4
      obtain ⟨u5, n5, y5, g5, e5, m5⟩ := hx i hi 5 _ rfl
      obtain ⟨A, b, c, rfl, hbl, hba⟩ := open_bytes Try.underlying31 e5
      have hbs := bytes_len Try.underlying31 (by kernel_rfl) e5 (fun m hm => hw m (m5 m hm))
      refine ⟨⟨⟨x0, x1, x2, x3, x4, b⟩, A, c⟩, ⟨hba, hbs⟩, fun j u hu => ?_⟩
      match j, hu with
      | 0, hu => simp [TActM.cells] at hu; subst hu; exact g0
      | 1, hu => simp [TActM.cells] at hu; subst hu; exact g1
      | 2, hu => simp [TActM.cells] at hu; subst hu; exact g2
      | 3, hu => simp [TActM.cells] at hu; subst hu; exact g3
      | 4, hu => simp [TActM.cells] at hu; subst hu; exact g4
      | 5, hu => simp [TActM.cells] at hu; subst hu; exact g5
      | j + 6, hu => simp [TActM.cells] at hu)
    have hspot : a.spot = none := by
      obtain ⟨x, hx0⟩ : ∃ x, l[0]? = some x := ⟨l[0]'(by omega), List.getElem?_eq_getElem (by omega)⟩
      have := (hq 0 x hx0).2 0 _ rfl
      exact World.cell?_spot (by simpa [Addr.add] using this)
    obtain ⟨b, off, spot⟩ := a
    simp only at hspot
    subst hspot
    have hat : ∀ i m, l[i]? = some m → ∀ j u, m.cells[j]? = some u → w.cell? ⟨b, off + i * 6 + j, none⟩ = some u := fun i x hx j u hu => by
      have := (hq i x hx).2 j u hu
      rwa [Go.Addr.add_lit, ← Nat.add_assoc] at this
    refine ⟨l, .inr ⟨b, off, cap0, by rw [hlen], ?_, by omega, fun i m hi => ⟨(hq i m hi).1, hat i m hi⟩⟩⟩
    obtain ⟨x, hx0⟩ : ∃ x, l[0]? = some x := ⟨l[0]'(by omega), List.getElem?_eq_getElem (by omega)⟩
    exact World.block_lt_of_cell? _ _ (hat 0 x hx0 0 _ rfl)
end
end Go.Proofs.Ytpenejigebkkmaa
