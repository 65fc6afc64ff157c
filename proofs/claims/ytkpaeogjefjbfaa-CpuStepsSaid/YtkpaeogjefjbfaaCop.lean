/-
  Layer 6: how a case comes in; structs held against themselves; a struct that is read out of another one.
  Conditions: none. (My own text.)
-/
import Derived.Test.YtkpaeogjefjbfaaOpen
import Derived.Test.YtkpaeogjefjbfaaSp5
import Derived.Test.YtkpaeogjefjbfaaCbo
import Derived.Test.YtkpaeogjefjbfaaCpl
import Derived.Laws.StructEq
import Derived.DeepKeys
namespace Go.Proofs.Ytkpaeogjefjbfaa
open Go.ChangeShapes Go.WideShapes Go.ChangeAt Go.RowKit Go.Deep Spm
set_option linter.unusedVariables false
set_option linter.unusedSimpArgs false

section
variable {H : Type} {enc : TypeId × Value → H} {P : Program} {w : World} {base : Nat} {spare : Nat → Bool} {held : Bool}
theorem open_field {t : TypeId} {fs : Array Field} {fuel : Nat} {cs : List Value} {x : DataW H × List MemPlace} (hs : P.underlying t = some (.struct fs)) (h : DataW.trod enc P w base spare held fuel t cs = some x) (i : Nat) (f : Field) (hi : fs[i]? = some f) :
    ∃ (n : Nat) (y : DataW H × List MemPlace), DataW.trod enc P w base spare held n f.type ((cs.drop f.offset).take (P.cellsOf f.type)) = some y ∧ ∀ m ∈ y.1.weights P f.type, m ∈ x.1.weights P t := by
  obtain ⟨xs, n, _, hx, hl, hlen, hg⟩ := DataW.trod_struct hs h
  have hlt : i < fs.size := (Array.getElem?_eq_some_iff.1 hi).1
  have h1 := hg i f hi
  rw [List.getElem?_eq_getElem (by omega)] at h1
  refine ⟨n, _, h1, fun m hm => ?_⟩
  rw [hx]
  simp only [DataW.weights, hs]
  exact DataW.weights_mem_each (j := i) (t := f.type) (d := (xs[i]'(by omega)).1) (by simp [hi]) (by rw [List.getElem?_map, List.getElem?_eq_getElem (by omega)]; rfl) m hm
theorem open_len {t : TypeId} {fs : Array Field} {fuel : Nat} {cs : List Value} {x : DataW H × List MemPlace} (hs : P.underlying t = some (.struct fs)) (h : DataW.trod enc P w base spare held fuel t cs = some x) : cs.length = P.cellsOf t := by
  obtain ⟨xs, n, _, hx, hl, hlen, hg⟩ := DataW.trod_struct hs h
  exact hl
theorem open_elem {t e : TypeId} {k : Nat} {fuel : Nat} {cs : List Value} {x : DataW H × List MemPlace} (hs : P.underlying t = some (.array k e)) (h : DataW.trod enc P w base spare held fuel t cs = some x) (i : Nat) (hi : i < k) :
    ∃ (n : Nat) (y : DataW H × List MemPlace), DataW.trod enc P w base spare held n e ((cs.drop (i * P.cellsOf e)).take (P.cellsOf e)) = some y := by
  obtain ⟨xs, n, _, hx, hl, hlen, hg⟩ := DataW.trod_array hs h
  have h1 := hg i hi
  rw [List.getElem?_eq_getElem (by omega)] at h1
  exact ⟨n, _, h1⟩
theorem slice_form {t e : TypeId} {fuel : Nat} {v : Value} {x : DataW H × List MemPlace} (ht : P.underlying t = some (.slice e)) (h : DataW.trod enc P w base spare held fuel t [v] = some x) : ∃ A l c, v = .slice A l c := by
  rcases DataW.trod_slice ht h with ⟨h0, _⟩ | ⟨a, len, cap, elems, rest, n, _, hcs, _⟩
  · exact ⟨none, 0, 0, by simpa using h0⟩
  · exact ⟨some a, len, cap, by simpa using hcs⟩
end

theorem BytesAt.up {w w2 : World} {B B2 : Nat} {A : Option Addr} {b : List UInt8} (h : BytesAt w B A b) (hb : Below B w w2) (hB : B ≤ B2) : BytesAt w2 B2 A b := fun hn => by
  obtain ⟨bb, off, h1, h2, h3⟩ := h hn
  exact ⟨bb, off, h1, by omega, fun j x hj => (hb.cell (p := ⟨bb, off + j, none⟩) h2).trans (h3 j x hj)⟩
theorem ActsV.up {w w2 : World} {B B2 : Nat} {v : Value} {l : List ActM} (h : ActsV w B v l) (hb : Below B w w2) (hB : B ≤ B2) : ActsV w2 B2 v l := by
  rcases h with h | ⟨b, off, c, h1, h2, h3, h4⟩
  · exact .inl h
  · exact .inr ⟨b, off, c, h1, by omega, h3, fun i m hi => ⟨⟨(h4 i m hi).1.rng, (h4 i m hi).1.src.up hb hB⟩, fun j u hu => (hb.cell (p := ⟨b, off + i * 5 + j, none⟩) h2).trans ((h4 i m hi).2 j u hu)⟩⟩
theorem RowsAt.up {α : Type} {n : Nat} {cells : α → List Value} {w w2 : World} {B B2 : Nat} {v : Value} {l : List α} (h : RowsAt n cells w (fun k => k < B) v l) (hb : Below B w w2) (hB : B ≤ B2) : RowsAt n cells w2 (fun k => k < B2) v l :=
  (h.keep fun k hk _ => hb.block k hk).mono fun k hk _ => by omega

section
variable {H : Type} {enc : TypeId × Value → H} {w : World}
set_option maxRecDepth 100000 in
theorem open_actsC {t : TypeId} {fuel : Nat} {v : Value} {y : DataW H × List MemPlace} (ht : Try.prog.underlying t = some (.slice 78)) (hf : DataW.trod enc Try.prog w 0 (fun _ => true) true fuel t [v] = some y) : ∃ l, ActsV w w.heap.size v l := by
  obtain ⟨a0, len0, cap0, rfl⟩ := slice_form ht hf
  rcases open_slice_ones ht Try.underlying78 (by kernel_rfl) (by kernel_rfl) hf with h0 | ⟨a, len, cap, hcs, hl, hm, hx⟩
  · simp at h0
    obtain ⟨rfl, rfl, rfl⟩ := h0
    exact ⟨[], .inl ⟨_, _, rfl, rfl⟩⟩
  · simp at hcs
    obtain ⟨rfl, rfl, rfl⟩ := hcs
    rcases Nat.eq_zero_or_pos len0 with hz | hpos
    · subst hz
      exact ⟨[], .inl ⟨_, _, rfl, rfl⟩⟩
    obtain ⟨l, hlen, hq⟩ := list_of (Q := fun i (x : ActM) => ActOk w w.heap.size x ∧ ∀ (j : Nat) (u : Value), x.cells[j]? = some u → w.cell? (a.add (i * 5 + j)) = some u) len0 (fun i hi => by
      obtain ⟨u0, n0, y0, g0, e0⟩ := hx i hi 0 _ rfl
      obtain ⟨x0, rfl, w0⟩ := int_cell Try.underlying3 e0
      obtain ⟨u1, n1, y1, g1, e1⟩ := hx i hi 1 _ rfl
      obtain ⟨x1, rfl, w1⟩ := int_cell Try.underlying3 e1
      obtain ⟨u2, n2, y2, g2, e2⟩ := hx i hi 2 _ rfl
      obtain ⟨x2, rfl, w2⟩ := int_cell Try.underlying3 e2
      obtain ⟨u3, n3, y3, g3, e3⟩ := hx i hi 3 _ rfl
      obtain ⟨x3, rfl, w3⟩ := int_cell Try.underlying27 e3
      obtain ⟨u4, n4, y4, g4, e4⟩ := hx i hi 4 _ rfl
      obtain ⟨A, b, c, rfl, hbl, hba⟩ := open_bytes Try.underlying33 e4
      refine ⟨⟨⟨x0, x1, x2, x3, b⟩, A, c⟩, ⟨⟨i64_of w1, i64_of w2, i64_of w3, hbl⟩, hba⟩, fun j u hu => ?_⟩
      match j, hu with
      | 0, hu => simp [ActM.cells] at hu; subst hu; exact g0
      | 1, hu => simp [ActM.cells] at hu; subst hu; exact g1
      | 2, hu => simp [ActM.cells] at hu; subst hu; exact g2
      | 3, hu => simp [ActM.cells] at hu; subst hu; exact g3
      | 4, hu => simp [ActM.cells] at hu; subst hu; exact g4
      | j + 5, hu => simp [ActM.cells] at hu)
    have hspot : a.spot = none := by
      obtain ⟨x, hx0⟩ : ∃ x, l[0]? = some x := ⟨l[0]'(by omega), List.getElem?_eq_getElem (by omega)⟩
      have := (hq 0 x hx0).2 0 _ rfl
      exact World.cell?_spot (by simpa [Addr.add] using this)
    obtain ⟨b, off, spot⟩ := a
    simp only at hspot
    subst hspot
    have hat : ∀ i m, l[i]? = some m → ∀ j u, m.cells[j]? = some u → w.cell? ⟨b, off + i * 5 + j, none⟩ = some u := fun i x hx j u hu => by
      have := (hq i x hx).2 j u hu
      rwa [Go.Addr.add_lit, ← Nat.add_assoc] at this
    refine ⟨l, .inr ⟨b, off, cap0, by rw [hlen], ?_, by omega, fun i m hi => ⟨(hq i m hi).1, hat i m hi⟩⟩⟩
    obtain ⟨x, hx0⟩ : ∃ x, l[0]? = some x := ⟨l[0]'(by omega), List.getElem?_eq_getElem (by omega)⟩
    exact World.block_lt_of_cell? _ _ (hat 0 x hx0 0 _ rfl)

set_option maxRecDepth 100000 in
theorem open_insts {t : TypeId} {fuel : Nat} {v : Value} {y : DataW H × List MemPlace} (ht : Try.prog.underlying t = some (.slice 30)) (hf : DataW.trod enc Try.prog w 0 (fun _ => true) true fuel t [v] = some y) : ∃ l : List Ins, RowsAt 5 Ins.cells w (fun k => k < w.heap.size) v l := by
  obtain ⟨a0, len0, cap0, rfl⟩ := slice_form ht hf
  rcases open_slice_ones ht Try.underlying30 (by kernel_rfl) (by kernel_rfl) hf with h0 | ⟨a, len, cap, hcs, hl, hm, hx⟩
  · simp at h0
    obtain ⟨rfl, rfl, rfl⟩ := h0
    exact ⟨[], ⟨_, _, rfl, Nat.le_refl _, Nat.zero_le _, fun i x hx => by simp at hx⟩⟩
  · simp at hcs
    obtain ⟨rfl, rfl, rfl⟩ := hcs
    obtain ⟨l, hlen, hq⟩ := list_of (Q := fun i (x : Ins) => ∀ (j : Nat) (u : Value), x.cells[j]? = some u → w.cell? (a.add (i * 5 + j)) = some u) len0 (fun i hi => by
      obtain ⟨u0, n0, y0, g0, e0⟩ := hx i hi 0 _ rfl
      obtain ⟨x0, rfl, w0⟩ := int_cell Try.underlying28 e0
      obtain ⟨u1, n1, y1, g1, e1⟩ := hx i hi 1 _ rfl
      obtain ⟨x1, rfl, w1⟩ := int_cell Try.underlying3 e1
      obtain ⟨u2, n2, y2, g2, e2⟩ := hx i hi 2 _ rfl
      obtain ⟨x2, rfl, w2⟩ := int_cell Try.underlying3 e2
      obtain ⟨u3, n3, y3, g3, e3⟩ := hx i hi 3 _ rfl
      obtain ⟨x3, rfl, w3⟩ := int_cell Try.underlying3 e3
      obtain ⟨u4, n4, y4, g4, e4⟩ := hx i hi 4 _ rfl
      obtain ⟨x4, rfl, w4⟩ := int_cell Try.underlying3 e4
      refine ⟨⟨x0, x1, x2, x3, x4⟩, fun j u hu => ?_⟩
      match j, hu with
      | 0, hu => simp [Ins.cells] at hu; subst hu; exact g0
      | 1, hu => simp [Ins.cells] at hu; subst hu; exact g1
      | 2, hu => simp [Ins.cells] at hu; subst hu; exact g2
      | 3, hu => simp [Ins.cells] at hu; subst hu; exact g3
      | 4, hu => simp [Ins.cells] at hu; subst hu; exact g4
      | j + 5, hu => simp [Ins.cells] at hu)
    refine ⟨l, ⟨some a, cap0, by rw [hlen], by omega, hm, fun i x hx => ?_⟩⟩
    have hc := hq i x hx
    obtain ⟨u0, hu0⟩ : ∃ u, x.cells[0]? = some u := ⟨_, rfl⟩
    have hspot : a.spot = none := by
      obtain ⟨x0, hx0⟩ : ∃ x, l[0]? = some x := ⟨l[0]'(by have := (List.getElem?_eq_some_iff.1 hx).1; omega), List.getElem?_eq_getElem _⟩
      have := (hq 0 x0 hx0) 0 _ rfl
      exact World.cell?_spot (by simpa [Addr.add] using this)
    obtain ⟨b, off, spot⟩ := a
    simp only at hspot
    subst hspot
    have hat : ∀ j u, x.cells[j]? = some u → w.cell? ⟨b, off + i * 5 + j, none⟩ = some u := fun j u hu => by
      have := hc j u hu
      rwa [Go.Addr.add_lit, ← Nat.add_assoc] at this
    exact ⟨b, off, rfl, World.block_lt_of_cell? _ _ (hat 0 u0 hu0), World.block_lt_of_cell? _ _ (hat 0 u0 hu0), hat⟩

set_option maxRecDepth 100000 in
/-- A context's cells. -/
theorem open_ctx {fuel : Nat} {cs : List Value} {y : DataW H × List MemPlace} (hf : DataW.trod enc Try.prog w 0 (fun _ => true) true fuel 37 cs = some y) : ∃ C : Ctx, cs = C.arr.toList ∧ CtxOk C := by
  have hl := open_len Try.underlying37 hf
  have h18 : Try.prog.cellsOf 37 = 18 := by kernel_rfl
  have h16 : Try.prog.cellsOf 35 = 16 := by kernel_rfl
  have h1 : Try.prog.cellsOf 3 = 1 := by kernel_rfl
  rw [h18] at hl
  obtain ⟨n0, y0, e0, _⟩ := open_field Try.underlying37 hf 0 _ rfl
  obtain ⟨n1, y1, e1, _⟩ := open_field Try.underlying37 hf 1 _ rfl
  obtain ⟨n2, y2, e2, _⟩ := open_field Try.underlying37 hf 2 _ rfl
  match cs, hl with
  | [a0, a1, a2, a3, a4, a5, a6, a7, a8, a9, a10, a11, a12, a13, a14, a15, a16, a17], _ =>
  try simp only [h1] at e0 e1
  try simp only [h16] at e2
  simp at e0 e1 e2
  obtain ⟨x0, rfl, w0⟩ := int_cell Try.underlying3 e0
  obtain ⟨x1, rfl, w1⟩ := int_cell Try.underlying3 e1
  obtain ⟨m0, z0, q0⟩ := open_elem Try.underlying35 e2 0 (by decide)
  simp [h1] at q0
  obtain ⟨r0, rfl, v0⟩ := int_cell Try.underlying3 q0
  obtain ⟨m1, z1, q1⟩ := open_elem Try.underlying35 e2 1 (by decide)
  simp [h1] at q1
  obtain ⟨r1, rfl, v1⟩ := int_cell Try.underlying3 q1
  obtain ⟨m2, z2, q2⟩ := open_elem Try.underlying35 e2 2 (by decide)
  simp [h1] at q2
  obtain ⟨r2, rfl, v2⟩ := int_cell Try.underlying3 q2
  obtain ⟨m3, z3, q3⟩ := open_elem Try.underlying35 e2 3 (by decide)
  simp [h1] at q3
  obtain ⟨r3, rfl, v3⟩ := int_cell Try.underlying3 q3
  obtain ⟨m4, z4, q4⟩ := open_elem Try.underlying35 e2 4 (by decide)
  simp [h1] at q4
  obtain ⟨r4, rfl, v4⟩ := int_cell Try.underlying3 q4
  obtain ⟨m5, z5, q5⟩ := open_elem Try.underlying35 e2 5 (by decide)
  simp [h1] at q5
  obtain ⟨r5, rfl, v5⟩ := int_cell Try.underlying3 q5
  obtain ⟨m6, z6, q6⟩ := open_elem Try.underlying35 e2 6 (by decide)
  simp [h1] at q6
  obtain ⟨r6, rfl, v6⟩ := int_cell Try.underlying3 q6
  obtain ⟨m7, z7, q7⟩ := open_elem Try.underlying35 e2 7 (by decide)
  simp [h1] at q7
  obtain ⟨r7, rfl, v7⟩ := int_cell Try.underlying3 q7
  obtain ⟨m8, z8, q8⟩ := open_elem Try.underlying35 e2 8 (by decide)
  simp [h1] at q8
  obtain ⟨r8, rfl, v8⟩ := int_cell Try.underlying3 q8
  obtain ⟨m9, z9, q9⟩ := open_elem Try.underlying35 e2 9 (by decide)
  simp [h1] at q9
  obtain ⟨r9, rfl, v9⟩ := int_cell Try.underlying3 q9
  obtain ⟨m10, z10, q10⟩ := open_elem Try.underlying35 e2 10 (by decide)
  simp [h1] at q10
  obtain ⟨r10, rfl, v10⟩ := int_cell Try.underlying3 q10
  obtain ⟨m11, z11, q11⟩ := open_elem Try.underlying35 e2 11 (by decide)
  simp [h1] at q11
  obtain ⟨r11, rfl, v11⟩ := int_cell Try.underlying3 q11
  obtain ⟨m12, z12, q12⟩ := open_elem Try.underlying35 e2 12 (by decide)
  simp [h1] at q12
  obtain ⟨r12, rfl, v12⟩ := int_cell Try.underlying3 q12
  obtain ⟨m13, z13, q13⟩ := open_elem Try.underlying35 e2 13 (by decide)
  simp [h1] at q13
  obtain ⟨r13, rfl, v13⟩ := int_cell Try.underlying3 q13
  obtain ⟨m14, z14, q14⟩ := open_elem Try.underlying35 e2 14 (by decide)
  simp [h1] at q14
  obtain ⟨r14, rfl, v14⟩ := int_cell Try.underlying3 q14
  obtain ⟨m15, z15, q15⟩ := open_elem Try.underlying35 e2 15 (by decide)
  simp [h1] at q15
  obtain ⟨r15, rfl, v15⟩ := int_cell Try.underlying3 q15
  refine ⟨⟨x0, x1, fun k => [r0, r1, r2, r3, r4, r5, r6, r7, r8, r9, r10, r11, r12, r13, r14, r15].getD k 0⟩, by simp [Ctx.arr], ⟨i64_of w0, i64_of w1, fun k => ?_⟩⟩
  match k with
  | 0 => exact i64_of v0
  | 1 => exact i64_of v1
  | 2 => exact i64_of v2
  | 3 => exact i64_of v3
  | 4 => exact i64_of v4
  | 5 => exact i64_of v5
  | 6 => exact i64_of v6
  | 7 => exact i64_of v7
  | 8 => exact i64_of v8
  | 9 => exact i64_of v9
  | 10 => exact i64_of v10
  | 11 => exact i64_of v11
  | 12 => exact i64_of v12
  | 13 => exact i64_of v13
  | 14 => exact i64_of v14
  | 15 => exact i64_of v15
  | k + 16 => simp [List.getD]; exact ⟨by omega, by omega⟩

theorem Ctx.val_arr (c : Ctx) : c.val = .agg c.arr := rfl
theorem Evt.val_arr (e : Evt) : e.val = .agg e.arr := rfl
def caseA (va vc : Value) (at_ : Int) (C : Ctx) : Array Value := #[va, vc, .int .i64 at_, .int .i64 C.pc, .int .i64 C.tp, .int .i64 (C.r 0), .int .i64 (C.r 1), .int .i64 (C.r 2), .int .i64 (C.r 3), .int .i64 (C.r 4), .int .i64 (C.r 5), .int .i64 (C.r 6), .int .i64 (C.r 7), .int .i64 (C.r 8), .int .i64 (C.r 9), .int .i64 (C.r 10), .int .i64 (C.r 11), .int .i64 (C.r 12), .int .i64 (C.r 13), .int .i64 (C.r 14), .int .i64 (C.r 15)]
set_option maxRecDepth 100000 in
theorem open_case {r : Reach} {b0 : Nat} {v : Value} {d : DataW H} {p : List MemPlace} (hv : Value.okWide Try.prog w r b0 46 v)
    (h : DataW.Trod enc Try.prog w 0 (fun _ => true) true 46 v d p) :
    ∃ (va vc : Value) (l : List ActM) (is : List Ins) (at_ : Int) (C : Ctx), v = .agg (caseA va vc at_ C) ∧ ActsV w w.heap.size va l ∧ RowsAt 5 Ins.cells w (fun k => k < w.heap.size) vc is ∧ I64 at_ ∧ CtxOk C := by
  obtain ⟨cs, rfl, hsz⟩ := okWide_struct Try.underlying46 hv
  obtain ⟨fuel, hf⟩ := h
  have hl := open_len Try.underlying46 hf
  have h21 : Try.prog.cellsOf 46 = 21 := by kernel_rfl
  have h18 : Try.prog.cellsOf 37 = 18 := by kernel_rfl
  have h1 : Try.prog.cellsOf 3 = 1 := by kernel_rfl
  have h1a : Try.prog.cellsOf 44 = 1 := by kernel_rfl
  have h1b : Try.prog.cellsOf 31 = 1 := by kernel_rfl
  have e : (Value.agg cs).cells.toList = cs.toList := rfl
  rw [h21, e] at hl
  rw [e] at hf
  obtain ⟨n0, y0, e0, _⟩ := open_field Try.underlying46 hf 0 _ rfl
  obtain ⟨n1, y1, e1, _⟩ := open_field Try.underlying46 hf 1 _ rfl
  obtain ⟨n2, y2, e2, _⟩ := open_field Try.underlying46 hf 2 _ rfl
  obtain ⟨n3, y3, e3, _⟩ := open_field Try.underlying46 hf 3 _ rfl
  obtain ⟨cl⟩ := cs
  simp only at hl e0 e1 e2 e3
  match cl, hl with
  | [b0, b1, b2, a0, a1, a2, a3, a4, a5, a6, a7, a8, a9, a10, a11, a12, a13, a14, a15, a16, a17], _ =>
  try simp only [h1a] at e0
  try simp only [h1b] at e1
  try simp only [h1] at e2
  try simp only [h18] at e3
  simp [h1a] at e0
  simp [h1b] at e1
  simp [h1] at e2
  simp [h18] at e3
  obtain ⟨l, hl⟩ := open_actsC Try.underlying44 e0
  obtain ⟨is, hi⟩ := open_insts Try.underlying31 e1
  obtain ⟨at_, rfl, wa⟩ := int_cell Try.underlying3 e2
  obtain ⟨C, hC, hok⟩ := open_ctx e3
  refine ⟨b0, b1, l, is, at_, C, ?_, hl, hi, i64_of wa, hok⟩
  simp [Ctx.arr] at hC
  simp [caseA, hC]
end

theorem case_ctx (va vc : Value) (at_ : Int) (C : Ctx) (j : Nat) (v : Value) (h : C.arr.toList[j]? = some v) : (caseA va vc at_ C)[3 + j]? = some v := by
  have hj : j < 18 := (List.getElem?_eq_some_iff.1 h).1
  obtain rfl | rfl | rfl | rfl | rfl | rfl | rfl | rfl | rfl | rfl | rfl | rfl | rfl | rfl | rfl | rfl | rfl | rfl : j = 0 ∨ j = 1 ∨ j = 2 ∨ j = 3 ∨ j = 4 ∨ j = 5 ∨ j = 6 ∨ j = 7 ∨ j = 8 ∨ j = 9 ∨ j = 10 ∨ j = 11 ∨ j = 12 ∨ j = 13 ∨ j = 14 ∨ j = 15 ∨ j = 16 ∨ j = 17 := by omega
  all_goals simpa [Ctx.arr, caseA] using h
theorem case_pc (va vc : Value) (at_ : Int) (C : Ctx) (x : Int) : (caseA va vc at_ C).setIfInBounds 3 (.int .i64 x) = caseA va vc at_ { C with pc := x } := rfl

section
variable {P : Program} {ops : Array Oper} {rest : List Oper} {o : Oper} {a : Go.Act} {w : World} {Q : Exit → Go.Act → World → Prop}
theorem wpList_load_part (hw : Region.wanted o (yielded ops a.tmps) = true) (ty : TypeId) (x : Operand) (ho : o.op = .load ty x) (g k : Nat) (hx : a.eval x = .pointer (some ⟨g, k, none⟩)) (cs : Array Value) (d : TypeDesc)
    (hg : ∀ j v, cs.toList[j]? = some v → w.cell? ⟨g, k + j, none⟩ = some v) (hu : P.underlying ty = some d) (hd : (match d with | .struct _ | .array _ _ => true | _ => false) = true) (hi : (P.info? ty).map (·.size) = some cs.size)
    (h : wpList P ops Q rest (a.put o.dst (.agg cs)) w) : wpList P ops Q (o :: rest) a w :=
  BigFrame.wpList_want hw fun K hK => by
    unfold Oper.wp execOp
    simp only [ho, hx, Instr.loadAt, Instr.sureAddr, Sem.run_bind, Sem.run_pure, Result.andThen_ok, run_loadVar_part w g k ty cs d hg hu hd hi]
    exact hK _ _ h
theorem wpList_load_rowW (hw : Region.wanted o (yielded ops a.tmps) = true) (ty : TypeId) (x : Operand) (ho : o.op = .load ty x) (g : Nat) (hx : a.eval x = .pointer (some ⟨g, 0, none⟩)) {t : TypeId} (cs : Array Value) (d : TypeDesc)
    (hg : w.heap[g]? = some (.cells cs t (0, 0))) (hu : P.underlying ty = some d) (hd : (match d with | .struct _ | .array _ _ => true | _ => false) = true) (hi : (P.info? ty).map (·.size) = some cs.size)
    (h : wpList P ops Q rest (a.put o.dst (.agg cs)) w) : wpList P ops Q (o :: rest) a w :=
  BigFrame.wpList_want hw fun K hK => by
    unfold Oper.wp execOp
    simp only [ho, hx, Instr.loadAt, Instr.sureAddr, Sem.run_bind, Sem.run_pure, Result.andThen_ok, run_loadVar_row w g t ty cs (0, 0) d hg hu hd hi]
    exact hK _ _ h
theorem wpList_eql_self (hw : Region.wanted o (yielded ops a.tmps) = true) (t u : TypeId) (x y : Operand) (ho : o.op = .binOp .eql t x y u) (cs : Array Value) (hx : a.eval x = .agg cs) (hy : a.eval y = .agg cs) (hG : P.eqGuardType P.depth t = false)
    (he : ∀ w : World, (Op.equalIn 10000 t (.agg cs) (.agg cs)).run P w = .ok true w)
    (h : wpList P ops Q rest (a.put o.dst (.bool true)) w) : wpList P ops Q (o :: rest) a w :=
  BigFrame.wpList_want hw fun K hK => by
    unfold Oper.wp execOp
    simp only [ho, hx, hy, Sem.run_bind, run_eqGuard_agg w .eql t x y cs cs hG, run_eql_struct, he, Result.andThen_ok, Sem.run_pure]
    exact hK _ _ h
theorem wpList_neq_self (hw : Region.wanted o (yielded ops a.tmps) = true) (t u : TypeId) (x y : Operand) (ho : o.op = .binOp .neq t x y u) (cs : Array Value) (hx : a.eval x = .agg cs) (hy : a.eval y = .agg cs) (hG : P.eqGuardType P.depth t = false)
    (he : ∀ w : World, (Op.equalIn 10000 t (.agg cs) (.agg cs)).run P w = .ok true w)
    (h : wpList P ops Q rest (a.put o.dst (.bool false)) w) : wpList P ops Q (o :: rest) a w :=
  BigFrame.wpList_want hw fun K hK => by
    unfold Oper.wp execOp
    simp only [ho, hx, hy, Sem.run_bind, run_eqGuard_agg w .neq t x y cs cs hG, run_neq_struct, he, Result.andThen_ok, Sem.run_pure, Bool.not_true]
    exact hK _ _ h
end

theorem eqFields_self {P : Program} (d : Nat) (xs : Array Value) : ∀ (fs : List Field), (∀ f ∈ fs, ∃ a, (∀ w, (part f.type xs f.offset).run P w = .ok a w) ∧ ∀ w, (Op.equalIn d f.type a a).run P w = .ok true w) → ∀ w, (Op.eqFields d xs xs fs).run P w = .ok true w
  | [], _, w => by simp [Op.eqFields]
  | f :: fs, h, w => by
    obtain ⟨a, h1, h2⟩ := h f (by simp)
    have ih := eqFields_self d xs fs (fun g hg => h g (by simp [hg])) w
    simp only [Op.eqFields]
    split
    · simp [Sem.run_bind, h1, h2, ih]
    · exact ih
theorem eqItems_self {P : Program} (d : Nat) (e : TypeId) (c : Nat) (xs : Array Value) : ∀ (is : List Nat), (∀ i ∈ is, ∃ a, (∀ w, (part e xs (i * c)).run P w = .ok a w) ∧ ∀ w, (Op.equalIn d e a a).run P w = .ok true w) → ∀ w, (Op.eqItems d e c xs xs is).run P w = .ok true w
  | [], _, w => by simp [Op.eqItems]
  | i :: is, h, w => by
    obtain ⟨a, h1, h2⟩ := h i (by simp)
    have ih := eqItems_self d e c xs is (fun g hg => h g (by simp [hg])) w
    simp only [Op.eqItems]
    simp [Sem.run_bind, h1, h2, ih]
theorem int_self (n k : Nat) (t : TypeId) (a : Int) (hn : n = k + 1) (ht : Try.prog.underlying t = some (.int .i64)) (hp : Try.prog.plainKey t = true) (xs : Array Value) (off : Nat) (hx : xs[off]? = some (.int .i64 a)) :
    ∃ v, (∀ w, (part t xs off).run Try.prog w = .ok v w) ∧ ∀ w, (Op.equalIn n t v v).run Try.prog w = .ok true w :=
  ⟨.int .i64 a, fun w => run_part_plain w hp hx, fun w => by subst hn; rw [run_equalIn_int w k t .i64 .i64 a a ht]; simp⟩
set_option maxRecDepth 100000 in
theorem eql_evt (e : Evt) (w : World) : (Op.equalIn 10000 40 (.agg e.arr) (.agg e.arr)).run Try.prog w = .ok true w := by
  rw [run_equalIn_agg w 9999 40 _ _ (by kernel_rfl) (by kernel_rfl)]
  refine eqFields_self 9999 _ _ ?_ w
  have hF : (Try.prog.fieldsOf 40).toList.map (fun f => (f.type, f.offset)) = [(38, 0), (3, 1), (3, 2), (3, 3), (25, 4)] := by kernel_rfl
  intro f hf
  have hm := List.mem_map_of_mem (f := fun f : Field => (f.type, f.offset)) hf
  rw [hF] at hm
  simp only [List.mem_cons, List.not_mem_nil, or_false, Prod.mk.injEq] at hm
  rcases hm with ⟨h1, h2⟩ | ⟨h1, h2⟩ | ⟨h1, h2⟩ | ⟨h1, h2⟩ | ⟨h1, h2⟩ <;> rw [h1, h2]
  · exact int_self _ _ _ e.k rfl Try.underlying38 (by kernel_rfl) _ _ rfl
  · exact int_self _ _ _ e.n rfl Try.underlying3 (by kernel_rfl) _ _ rfl
  · exact int_self _ _ _ e.a rfl Try.underlying3 (by kernel_rfl) _ _ rfl
  · exact int_self _ _ _ e.b rfl Try.underlying3 (by kernel_rfl) _ _ rfl
  · exact int_self _ _ _ e.f rfl Try.underlying25 (by kernel_rfl) _ _ rfl
set_option maxRecDepth 100000 in
theorem eql_ctx (C : Ctx) (w : World) : (Op.equalIn 10000 37 (.agg C.arr) (.agg C.arr)).run Try.prog w = .ok true w := by
  rw [run_equalIn_agg w 9999 37 _ _ (by kernel_rfl) (by kernel_rfl)]
  refine eqFields_self 9999 _ _ ?_ w
  have hF : (Try.prog.fieldsOf 37).toList.map (fun f => (f.type, f.offset)) = [(3, 0), (3, 1), (35, 2)] := by kernel_rfl
  intro f hf
  have hm := List.mem_map_of_mem (f := fun f : Field => (f.type, f.offset)) hf
  rw [hF] at hm
  simp only [List.mem_cons, List.not_mem_nil, or_false, Prod.mk.injEq] at hm
  rcases hm with ⟨h1, h2⟩ | ⟨h1, h2⟩ | ⟨h1, h2⟩ <;> rw [h1, h2]
  · exact int_self _ _ _ C.pc rfl Try.underlying3 (by kernel_rfl) _ _ rfl
  · exact int_self _ _ _ C.tp rfl Try.underlying3 (by kernel_rfl) _ _ rfl
  · have h16 : Try.prog.cellsOf 35 = 16 := by kernel_rfl
    have hc1 : Try.prog.cellsOf 3 = 1 := by kernel_rfl
    obtain ⟨i16, hi16⟩ := info_of_underlying Try.underlying35
    obtain ⟨i1, hi1⟩ := info_of_underlying Try.underlying3
    refine ⟨.agg (C.arr.extract 2 18), fun w => ?_, fun w => ?_⟩
    · simp [part, isAgg, run_underlying Try.underlying35, run_sizeOf w hi16, h16]
    · rw [run_equalIn_array w 9998 _ _ Try.underlying35 hi1, hc1]
      refine eqItems_self 9998 _ _ _ _ (fun i hi => ?_) w
      have hlt : i < 16 := by simpa using hi
      rw [Nat.mul_one]
      refine int_self _ 9997 _ (C.r i) rfl Try.underlying3 (by kernel_rfl) _ _ ?_
      rw [Array.getElem?_extract_of_lt (by simp [Ctx.arr]; omega)]
      exact (Array.getElem?_eq_getElem _).symm.trans (ctx_reg C hlt)

section
variable {B : Nat} {w wr w' : World} {X Z Z1 Z2 : Res}
theorem Has.r6 {Y X1 X2 X3 X4 X5 X6 : Res} (h : Has B w wr (Star X1 (Star X2 (Star X3 (Star X4 (Star X5 (Star X6 Y))))))) : Has B w wr (Star X6 (Star X1 (Star X2 (Star X3 (Star X4 (Star X5 Y)))))) := (h.imp fun _ => Star.under fun _ => Star.under fun _ => Star.under fun _ => Star.under fun _ =>  Star.swap).r5
theorem Has.r7 {Y X1 X2 X3 X4 X5 X6 X7 : Res} (h : Has B w wr (Star X1 (Star X2 (Star X3 (Star X4 (Star X5 (Star X6 (Star X7 Y)))))))) : Has B w wr (Star X7 (Star X1 (Star X2 (Star X3 (Star X4 (Star X5 (Star X6 Y))))))) := (h.imp fun _ => Star.under fun _ => Star.under fun _ => Star.under fun _ => Star.under fun _ => Star.under fun _ =>  Star.swap).r6
theorem Has.r8 {Y X1 X2 X3 X4 X5 X6 X7 X8 : Res} (h : Has B w wr (Star X1 (Star X2 (Star X3 (Star X4 (Star X5 (Star X6 (Star X7 (Star X8 Y))))))))) : Has B w wr (Star X8 (Star X1 (Star X2 (Star X3 (Star X4 (Star X5 (Star X6 (Star X7 Y)))))))) := (h.imp fun _ => Star.under fun _ => Star.under fun _ => Star.under fun _ => Star.under fun _ => Star.under fun _ => Star.under fun _ =>  Star.swap).r7
theorem Has.r9 {Y X1 X2 X3 X4 X5 X6 X7 X8 X9 : Res} (h : Has B w wr (Star X1 (Star X2 (Star X3 (Star X4 (Star X5 (Star X6 (Star X7 (Star X8 (Star X9 Y)))))))))) : Has B w wr (Star X9 (Star X1 (Star X2 (Star X3 (Star X4 (Star X5 (Star X6 (Star X7 (Star X8 Y))))))))) := (h.imp fun _ => Star.under fun _ => Star.under fun _ => Star.under fun _ => Star.under fun _ => Star.under fun _ => Star.under fun _ => Star.under fun _ =>  Star.swap).r8
theorem Has.r10 {Y X1 X2 X3 X4 X5 X6 X7 X8 X9 X10 : Res} (h : Has B w wr (Star X1 (Star X2 (Star X3 (Star X4 (Star X5 (Star X6 (Star X7 (Star X8 (Star X9 (Star X10 Y))))))))))) : Has B w wr (Star X10 (Star X1 (Star X2 (Star X3 (Star X4 (Star X5 (Star X6 (Star X7 (Star X8 (Star X9 Y)))))))))) := (h.imp fun _ => Star.under fun _ => Star.under fun _ => Star.under fun _ => Star.under fun _ => Star.under fun _ => Star.under fun _ => Star.under fun _ => Star.under fun _ =>  Star.swap).r9
theorem Has.r11 {Y X1 X2 X3 X4 X5 X6 X7 X8 X9 X10 X11 : Res} (h : Has B w wr (Star X1 (Star X2 (Star X3 (Star X4 (Star X5 (Star X6 (Star X7 (Star X8 (Star X9 (Star X10 (Star X11 Y)))))))))))) : Has B w wr (Star X11 (Star X1 (Star X2 (Star X3 (Star X4 (Star X5 (Star X6 (Star X7 (Star X8 (Star X9 (Star X10 Y))))))))))) := (h.imp fun _ => Star.under fun _ => Star.under fun _ => Star.under fun _ => Star.under fun _ => Star.under fun _ => Star.under fun _ => Star.under fun _ => Star.under fun _ => Star.under fun _ =>  Star.swap).r10
theorem Has.r12 {Y X1 X2 X3 X4 X5 X6 X7 X8 X9 X10 X11 X12 : Res} (h : Has B w wr (Star X1 (Star X2 (Star X3 (Star X4 (Star X5 (Star X6 (Star X7 (Star X8 (Star X9 (Star X10 (Star X11 (Star X12 Y))))))))))))) : Has B w wr (Star X12 (Star X1 (Star X2 (Star X3 (Star X4 (Star X5 (Star X6 (Star X7 (Star X8 (Star X9 (Star X10 (Star X11 Y)))))))))))) := (h.imp fun _ => Star.under fun _ => Star.under fun _ => Star.under fun _ => Star.under fun _ => Star.under fun _ => Star.under fun _ => Star.under fun _ => Star.under fun _ => Star.under fun _ => Star.under fun _ =>  Star.swap).r11
theorem Has.join [Fr X] [Fr Z] (h : Has B w wr X) (h2 : Has wr.heap.size wr w' Z) : Has B w w' (Star Z X) := h.add h2.bel (by
  obtain ⟨F, a, b⟩ := h2.own
  exact Fr.mono a (fun k hk _ => b k hk))
theorem Star.emp_left [Fr X] {F : Nat → Prop} (h : Star Emp X w F) : X w F := by
  obtain ⟨F1, F2, _, h2, _, _, g2⟩ := h
  exact Fr.mono h2 (fun k hk _ => g2 k hk)
theorem Has.join2 [Fr X] [Fr Z1] [Fr Z2] (h : Has B w wr X) (h2 : Has wr.heap.size wr w' (Star Z1 (Star Z2 Emp))) : Has B w w' (Star Z1 (Star Z2 X)) :=
  (h.join h2).assoc.imp fun _ => Star.under fun _ hs => Star.under (fun _ q => q.emp_left) (Star.assoc hs)
theorem both_at {w1 : World} [Fr X] (h : Has B w w1 X) {va vc : Value} {l : List ActM} (hv : ActsV w B va l) {is : List Ins} (hi : RowsAt 5 Ins.cells w (fun k => k < B) vc is) {at_ : Int} (hat_ : I64 at_) (C : Ctx) :
    Calls Try.prog 16 #[.agg (caseA va vc at_ C)] w1 fun e w' => ∃ a c, e = .returned (.tuple #[.pointer (some ⟨a, 0, none⟩), .pointer (some ⟨c, 0, none⟩), .bool true]) ∧ Has B w w' (Star (Sp a (codeS (playS [] (l.map (·.x))) at_ is).1) (Star (Rf c (codeS (playS [] (l.map (·.x))) at_ is).1) X)) :=
  (both06 (Below.refl w1.heap.size w1) (Nat.le_refl _) va vc l (hv.up h.bel h.le) is (hi.up h.bel h.le) at_ hat_ C).mono fun e w' ⟨a, c, he, hh⟩ => ⟨a, c, he, h.join2 hh⟩
end
end Go.Proofs.Ytkpaeogjefjbfaa
