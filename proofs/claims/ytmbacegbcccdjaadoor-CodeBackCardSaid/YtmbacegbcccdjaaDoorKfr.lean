/-
  Layer 4: what the frames share: what the listed variables give a walk; a world that lays them; how arguments come in, with their bulk.
  Conditions: none. (My own text.)
-/
import Derived.Test.YtmbacegbcccdjaaDoorKpa
import Derived.Test.YtmbacegbcccdjaaDoorOpen
import Derived.Test.YtmbacegbcccdjaaDoorSp5
import Derived.SliceStrings
import Derived.Test.YtmbacegbcccdjaaDoorCards
import Derived.Test.YtmbacegbcccdjaaDoorTie
import Derived.Deep.DeepHandedRow
import Derived.Deep.DeepWitnessRowRef
import Derived.Lib.LaidTab
import Derived.Stop.LaidErr
import Derived.Shelf.Vars
namespace Go.Proofs.YtmbacegbcccdjaaDoor
open Go.ChangeShapes Go.WideShapes Go.ChangeAt Go.RowKit Go.Deep Spm
open Go.ChangeMaps (open_string)
set_option linter.unusedVariables false
set_option linter.unusedSimpArgs false
set_option maxRecDepth 100000

namespace code04
set_option maxRecDepth 100000 in
theorem gTab : Tryd.prog.globalNamed "internal/strconv.uint64pow10" = some 1 := by kernel_rfl
set_option maxRecDepth 100000 in
theorem gTabType : (Tryd.prog.globals[1]?).map (·.type) = some 118 := by kernel_rfl
set_option maxRecDepth 100000 in
theorem tabCells : Tryd.prog.cellsOf 118 = 20 := by kernel_rfl
set_option maxRecDepth 100000 in
theorem elCells : Tryd.prog.cellsOf 105 = 1 := by kernel_rfl
set_option maxRecDepth 100000 in
theorem gS : Tryd.prog.globalNamed "strconv.ErrSyntax" = some 4 := by kernel_rfl
set_option maxRecDepth 100000 in
theorem gR : Tryd.prog.globalNamed "strconv.ErrRange" = some 5 := by kernel_rfl
set_option maxRecDepth 100000 in
theorem gSType : (Tryd.prog.globals[4]?).map (·.type) = some 70 := by kernel_rfl
set_option maxRecDepth 100000 in
theorem gRType : (Tryd.prog.globals[5]?).map (·.type) = some 70 := by kernel_rfl
theorem star : "*" ++ "errors.errorString" = "*errors.errorString" := by decide
set_option maxRecDepth 100000 in
theorem rowE (u : TypeId) (h : Tryd.prog.typeName? 3 u = some "*errors.errorString") : u = 136 :=
  typeName_ptr_named (nm := "errors.errorString") (by rw [star]; kernel_rfl) (by kernel_rfl) (by decide) u (by rw [star]; exact h)
set_option maxRecDepth 100000 in
theorem cellsE : Tryd.prog.cellsOf 138 = 1 := by kernel_rfl
set_option maxRecDepth 100000 in
theorem cellsS : Tryd.prog.cellsOf 9 = 1 := by kernel_rfl

set_option maxRecDepth 100000 in
/-- What the row's list and the world's shape give. -/
theorem table {W : World} (h0 : laidMetH Tryd.prog Rows.codeOneRow.laid W) (hsh : W.ShapedOpen Tryd.prog) : LaidW W := by
  have h : laidMet Tryd.prog Rows.codeOneRow.laid W := h0
  obtain ⟨aR, sR, hvR, _, _, _⟩ := laid_sentinel h.tail.tail.tail.tail gR gRType Tryd.underlying70 rowE Tryd.underlying136 Tryd.underlying138 rfl rfl Tryd.underlying9 cellsE cellsS
  obtain ⟨aS, sS, hvS, _, _, _⟩ := laid_sentinel h.tail.tail.tail.tail.tail gS gSType Tryd.underlying70 rowE Tryd.underlying136 Tryd.underlying138 rfl rfl Tryd.underlying9 cellsE cellsS
  refine ⟨Lib.tabIs_of_head gTab gTabType Tryd.underlying118 Tryd.underlying105 elCells tabCells h.tail.tail, ⟨_, _, hvS⟩, ⟨_, _, hvR⟩, ?_, ?_⟩
  · exact cell_of_shapedOpen_int (t := 3) (zero := #[.int .i64 0]) hsh (of_decide_eq_true (by kernel_rfl)) (by kernel_rfl) rfl (by kernel_rfl) (by kernel_rfl) Tryd.underlying3
  · have hs : ((((begin Tryd.prog (fun _ _ => 0) default).world.heap[7]?).bind Obj.row?).isSome) = true := by kernel_rfl
    obtain ⟨⟨z, t⟩, hz⟩ := Option.isSome_iff_exists.1 hs
    obtain ⟨cs, hc, _⟩ := hsh.1 7 z t (of_decide_eq_true (by kernel_rfl)) hz
    rcases Nat.lt_or_ge 7 W.heap.size with hl | hl
    · exact hl
    · rw [Array.getElem?_eq_none hl] at hc; cases hc

/-! ### A world that lays what is listed -/
def litV : DataW Unit → Value
  | .lit (.int k z) => .int k z
  | _ => undef
def tabV : DataW Unit → Array Value
  | .agg l => (l.map litV).toArray
  | _ => #[]
def tab2V : DataW Unit → Array Value
  | .agg l => (l.flatMap fun | .agg m => m.map litV | _ => []).toArray
  | _ => #[]
def putV (cs : Array Value) : Obj → Obj
  | .cells _ t frozen => .cells cs t frozen
  | o => o
abbrev txtR : ByteArray := { data := #[118, 97, 108, 117, 101, 32, 111, 117, 116, 32, 111, 102, 32, 114, 97, 110, 103, 101] }
abbrev txtS : ByteArray := { data := #[105, 110, 118, 97, 108, 105, 100, 32, 115, 121, 110, 116, 97, 120] }
noncomputable def low : Nat := (World.holding Tryd.prog default ⟨#[], #[], []⟩).heap.size
noncomputable def laidWorld (os : Os) : World :=
  let w0 := World.holding Tryd.prog os ⟨#[.cells #[.string txtR] 138, .cells #[.string txtS] 138], #[], []⟩
  { w0 with heap := ((((((w0.heap.modify 1 (putV (tabV Rows.laid_internal_strconv_uint64pow10))).modify 2 (putV (tabV Rows.laid_unicode_utf8_first))).modify 3 (putV (tab2V Rows.laid_unicode_utf8_acceptRanges))).modify 4 (putV #[.iface 136 (.pointer (some ⟨low + 1, 0, none⟩))])).modify 5 (putV #[.iface 136 (.pointer (some ⟨low, 0, none⟩))])).modify 6 (putV (tabV Rows.laid_math_bits_deBruijn32tab))).modify 7 (putV (tabV Rows.laid_math_bits_deBruijn64tab)) }
set_option maxRecDepth 100000 in
theorem laid_met (os : Os) (args : Array Value) : laidMet Tryd.prog Rows.codeOneRow.laid ((laidWorld os).forCall (fun _ _ => 0) ⟨#[], args, []⟩).memory :=
  laidMet_of_run' 8 (by kernel_rfl) (by kernel_rfl)

/-! ### How arguments come in -/
theorem bulk_one {H : Type} (d : DataW H) : 1 ≤ Rows.uptoBulk d := by
  cases d with
  | lit l => cases l <;> simp [Rows.uptoBulk]
  | nil => simp [Rows.uptoBulk]
  | ptr d => simp [Rows.uptoBulk]
  | slice elems spare => simp [Rows.uptoBulk]
  | agg parts => simp [Rows.uptoBulk]
  | iface t d => simp [Rows.uptoBulk]
  | map entries => simp [Rows.uptoBulk]
  | held h => simp [Rows.uptoBulk]
theorem bulk_len {H : Type} (l : List (DataW H)) : l.length ≤ Rows.uptoBulkAll l := by
  induction l with
  | nil => simp [Rows.uptoBulkAll]
  | cons x r ih => have := bulk_one x; simp only [Rows.uptoBulkAll, List.length_cons]; omega
theorem bulk_slice {H : Type} (elems spare : List (DataW H)) : Rows.uptoBulkAll elems + 1 ≤ Rows.uptoBulk (.slice elems spare) := by
  simp only [Rows.uptoBulk]
  omega
theorem bulk_string {H : Type} (bytes : List UInt8) : Rows.uptoBulk (DataW.lit (H := H) (.string bytes)) = bytes.length + 1 := by
  simp [Rows.uptoBulk]
theorem small1 {H : Type} {d : DataW H} (h : Rows.uptoSmall H ([d] ++ []) = true) : Rows.uptoBulk d ≤ 1048576 := by
  have h := of_decide_eq_true h
  simp only [List.append_nil, Rows.uptoBulkAll] at h
  omega
theorem small2 {H : Type} {d e : DataW H} (h : Rows.uptoSmall H ([d, e] ++ []) = true) : Rows.uptoBulk d + Rows.uptoBulk e ≤ 1048576 := by
  have h := of_decide_eq_true h
  simp only [List.cons_append, List.append_nil, List.nil_append, Rows.uptoBulkAll] at h
  omega
end code04
section
variable {H : Type} {enc : TypeId × Value → H} {w : World}
theorem slice_bulk {P : Program} {t e : TypeId} {d : DataW H} {p : List MemPlace} {fuel : Nat} {a0 : Option Addr} {len0 cap0 : Nat} (ht : P.underlying t = some (.slice e))
    (h : DataW.trod enc P w 0 (fun _ => true) true fuel t [.slice a0 len0 cap0] = some (d, p)) : len0 + 1 ≤ Rows.uptoBulk d := by
  rcases DataW.trod_slice ht h with ⟨h0, _⟩ | ⟨a, len, cap, elems, rest, n, _, hcs, hx, _, _, _, hel, _, _, _⟩
  · simp at h0
    obtain ⟨_, rfl, _⟩ := h0
    exact code04.bulk_one d
  · simp at hcs
    obtain ⟨_, rfl, _⟩ := hcs
    simp only [Prod.mk.injEq] at hx
    have h1 := code04.bulk_slice (elems.map (·.1)) (rest.map (·.1))
    have h2 := code04.bulk_len (elems.map (·.1))
    rw [List.length_map] at h2
    rw [hx.1]
    omega
set_option maxRecDepth 100000 in
theorem open_is {t : TypeId} {r : Reach} {b0 : Nat} {v : Value} {d : DataW H} {p : List MemPlace} (ht : Tryd.prog.underlying t = some (.slice 39)) (hv : Value.okWide Tryd.prog w r b0 t v)
    (h : DataW.Trod enc Tryd.prog w 0 (fun _ => true) true t v d p) : ∃ l : List Ins, RowsAt 5 Ins.cells w (fun k => k < w.heap.size) v l ∧ l.length + 1 ≤ Rows.uptoBulk d := by
  obtain ⟨a0, len0, cap0, rfl⟩ := okWide_slice ht hv
  obtain ⟨fuel, hf⟩ := h
  have hlen0 := slice_bulk ht (by simpa [Value.cells] using hf)
  rcases open_slice_ones ht Tryd.underlying39 (by kernel_rfl) (by kernel_rfl) (by simpa [Value.cells] using hf) with h0 | ⟨a, len, cap, hcs, hl, hm, hx⟩
  · simp at h0
    obtain ⟨rfl, rfl, rfl⟩ := h0
    exact ⟨[], ⟨_, _, rfl, Nat.le_refl _, Nat.zero_le _, fun i x hx => by simp at hx⟩, hlen0⟩
  · simp at hcs
    obtain ⟨rfl, rfl, rfl⟩ := hcs
    obtain ⟨l, hlen, hq⟩ := list_of (Q := fun i (x : Ins) => ∀ (j : Nat) (u : Value), x.cells[j]? = some u → w.cell? (a.add (i * 5 + j)) = some u) len0 (fun i hi => by
      obtain ⟨u0, n0, y0, g0, e0⟩ := hx i hi 0 _ rfl
      obtain ⟨x0, rfl, w0⟩ := int_cell Tryd.underlying37 e0
      obtain ⟨u1, n1, y1, g1, e1⟩ := hx i hi 1 _ rfl
      obtain ⟨x1, rfl, w1⟩ := int_cell Tryd.underlying3 e1
      obtain ⟨u2, n2, y2, g2, e2⟩ := hx i hi 2 _ rfl
      obtain ⟨x2, rfl, w2⟩ := int_cell Tryd.underlying3 e2
      obtain ⟨u3, n3, y3, g3, e3⟩ := hx i hi 3 _ rfl
      obtain ⟨x3, rfl, w3⟩ := int_cell Tryd.underlying3 e3
      obtain ⟨u4, n4, y4, g4, e4⟩ := hx i hi 4 _ rfl
      obtain ⟨x4, rfl, w4⟩ := int_cell Tryd.underlying3 e4
      refine ⟨⟨x0, x1, x2, x3, x4⟩, fun j u hu => ?_⟩
      match j, hu with
      | 0, hu => simp [Ins.cells] at hu; subst hu; exact g0
      | 1, hu => simp [Ins.cells] at hu; subst hu; exact g1
      | 2, hu => simp [Ins.cells] at hu; subst hu; exact g2
      | 3, hu => simp [Ins.cells] at hu; subst hu; exact g3
      | 4, hu => simp [Ins.cells] at hu; subst hu; exact g4
      | j + 5, hu => simp [Ins.cells] at hu)
    refine ⟨l, ⟨some a, cap0, by rw [hlen], by omega, hm, fun i x hx => ?_⟩, by rw [hlen]; exact hlen0⟩
    have hc := hq i x hx
    obtain ⟨u0, hu0⟩ : ∃ u, x.cells[0]? = some u := ⟨_, rfl⟩
    have hspot : a.spot = none := by
      obtain ⟨x0, hx0⟩ : ∃ x, l[0]? = some x := ⟨l[0]'(by have := (List.getElem?_eq_some_iff.1 hx).1; omega), List.getElem?_eq_getElem _⟩
      have := (hq 0 x0 hx0) 0 _ rfl
      exact World.cell?_spot (by simpa [Addr.add] using this)
    obtain ⟨b, off, spot⟩ := a
    simp only at hspot
    subst hspot
    have hat : ∀ j u, x.cells[j]? = some u → w.cell? ⟨b, off + i * 5 + j, none⟩ = some u := fun j u hu => by
      have := hc j u hu
      rwa [Go.Addr.add_lit, ← Nat.add_assoc] at this
    exact ⟨b, off, rfl, World.block_lt_of_cell? _ _ (hat 0 u0 hu0), World.block_lt_of_cell? _ _ (hat 0 u0 hu0), hat⟩
set_option maxRecDepth 100000 in
theorem open_by {t : TypeId} {r : Reach} {b0 : Nat} {v : Value} {d : DataW H} {p : List MemPlace} (ht : Tryd.prog.underlying t = some (.slice 5)) (hv : Value.okWide Tryd.prog w r b0 t v)
    (h : DataW.Trod enc Tryd.prog w 0 (fun _ => true) true t v d p) : ∃ (A : Option Addr) (b : List UInt8) (c : Nat), v = .slice A b.length c ∧ b.length ≤ c ∧ c ≤ maxLen ∧ BytesAt w w.heap.size A b ∧ b.length + 1 ≤ Rows.uptoBulk d := by
  obtain ⟨a0, len0, cap0, rfl⟩ := okWide_slice ht hv
  obtain ⟨fuel, hf⟩ := h
  have hf' : DataW.trod enc Tryd.prog w 0 (fun _ => true) true fuel t [.slice a0 len0 cap0] = some (d, p) := by simpa [Value.cells] using hf
  have hlen0 := slice_bulk ht hf'
  obtain ⟨A, b, c, he, _, hb⟩ := open_bytes ht hf'
  injection he with e1 e2 e3
  subst e1 e2 e3
  refine ⟨_, b, _, rfl, ?_, ?_, hb, hlen0⟩
  all_goals
    rcases DataW.trod_slice ht hf' with ⟨h0, _⟩ | ⟨a, len, cap, elems, rest, n, _, hcs, _, _, hl, hm, _, _, _, _⟩
    · simp at h0
      obtain ⟨_, e2, e3⟩ := h0
      simp [e2, e3]
    · simp at hcs
      obtain ⟨_, rfl, rfl⟩ := hcs
      first | exact hl | exact hm
def strC (s : ByteArray) : List Value := [.string s]
set_option maxRecDepth 100000 in
theorem open_ss {t : TypeId} {r : Reach} {b0 : Nat} {v : Value} {d : DataW H} {p : List MemPlace} (ht : Tryd.prog.underlying t = some (.slice 9)) (hv : Value.okWide Tryd.prog w r b0 t v)
    (h : DataW.Trod enc Tryd.prog w 0 (fun _ => true) true t v d p) : ∃ l : List ByteArray, RowsAt 1 strC w (fun k => k < w.heap.size) v l ∧ (l.map fun s => s.size + 1).sum + 1 ≤ Rows.uptoBulk d := by
  obtain ⟨a0, len0, cap0, rfl⟩ := okWide_slice ht hv
  obtain ⟨fuel, hf⟩ := h
  rcases open_strings ht Tryd.underlying9 (by kernel_rfl) (by simpa [Value.cells] using hf) with ⟨h0, hx⟩ | ⟨a, len, cap, ss, hcs, _, hl, hm, hss, hx, hc, _⟩
  · simp at h0
    obtain ⟨rfl, rfl, rfl⟩ := h0
    exact ⟨[], ⟨_, _, rfl, Nat.le_refl _, Nat.zero_le _, fun i x hx => by simp at hx⟩, code04.bulk_one d⟩
  · simp at hcs
    obtain ⟨rfl, rfl, rfl⟩ := hcs
    have hsl : ss.length = cap0 := by simpa using hss
    refine ⟨ss.take len0, ⟨some a, cap0, by rw [List.length_take, Nat.min_eq_left (by omega)], by rw [List.length_take]; omega, hm, fun i x hx => ?_⟩, ?_⟩
    · have hi : ss[i]? = some x := by
        have hlt := (List.getElem?_eq_some_iff.1 hx).1
        rw [List.length_take] at hlt
        rw [List.getElem?_take_of_lt (by omega)] at hx
        exact hx
      have hi2 := (List.getElem?_eq_some_iff.1 hi).1
      have h0 := hc i hi2
      rw [List.getD_eq_getElem?_getD, hi, Option.getD_some] at h0
      have h00 := hc 0 (by omega)
      have hspot : a.spot = none := World.cell?_spot (by simpa [Addr.add] using h00)
      clear h00
      obtain ⟨b, off, spot⟩ := a
      simp only at hspot
      subst hspot
      rw [Go.Addr.add_lit] at h0
      refine ⟨b, off, rfl, World.block_lt_of_cell? _ _ h0, World.block_lt_of_cell? _ _ h0, fun j u hu => ?_⟩
      match j, hu with
      | 0, hu => simp [strC] at hu; subst hu; simpa using h0
      | j + 1, hu => simp [strC] at hu
    · simp only [Prod.mk.injEq] at hx
      rw [hx.1]
      have h1 := code04.bulk_slice (H := H) (strs (ss.take len0)) (strs (ss.drop len0))
      have h2 : ∀ l : List ByteArray, (l.map fun s => s.size + 1).sum = Rows.uptoBulkAll (H := H) (strs l) := by
        intro l
        induction l with
        | nil => rfl
        | cons s l ih =>
          rw [List.map_cons, List.sum_cons, ih]
          show _ = Rows.uptoBulkAll (H := H) (.lit (.string s.data.toList) :: strs l)
          simp only [Rows.uptoBulkAll, Rows.uptoBulk]
          rfl
      rw [h2]
      exact h1
end
theorem flat_getI : ∀ (l : List Ins) (i : Nat) (x : Ins), l[i]? = some x → ∀ j u, x.cells[j]? = some u → (l.flatMap Ins.cells)[i * 5 + j]? = some u
  | [], i, x, h, _, _, _ => by simp at h
  | y :: l, 0, x, h, j, u, hu => by
    obtain rfl : y = x := by simpa using h
    rw [List.flatMap_cons, Nat.zero_mul, Nat.zero_add, List.getElem?_append_left (List.getElem?_eq_some_iff.1 hu).1]
    exact hu
  | y :: l, i + 1, x, h, j, u, hu => by
    have e : y.cells.length = 5 := rfl
    rw [List.flatMap_cons, List.getElem?_append_right (by rw [e]; omega), e, show (i + 1) * 5 + j - 5 = i * 5 + j by omega]
    exact flat_getI l i x (by simpa using h) j u hu
/-- Instructions that a function made, as a row that may be handed on. -/
theorem rows_own {w : World} {base : Nat} {T : TypeId} {v : Value} {l : List Ins} (h : w.ownsRow base T 5 v l.length (l.flatMap Ins.cells)) : RowsAt 5 Ins.cells w (fun k => k < w.heap.size) v l := by
  rcases h.2 with ⟨hv, hn⟩ | ⟨g, cap, cur, hv, hb, hg, hl, hm, hs, ht⟩
  · exact ⟨none, 0, by rw [hv, hn], by omega, Nat.zero_le _, fun i x hx => by rw [List.eq_nil_of_length_eq_zero hn] at hx; simp at hx⟩
  · refine ⟨some ⟨g, 0, none⟩, cap, hv, hl, hm, fun i x hx => ⟨g, 0, rfl, (Array.getElem?_eq_some_iff.1 hg).1, (Array.getElem?_eq_some_iff.1 hg).1, fun j u hu => ?_⟩⟩
    have := h.cells (g := g) (by rw [hv]; rfl) _ _ (flat_getI l i x hx j u hu)
    rwa [Addr.add_lit, ← Nat.add_assoc] at this
theorem RowsAt.lift {α : Type} {n : Nat} {cells : α → List Value} {w w2 : World} {B B2 : Nat} {v : Value} {l : List α} (h : RowsAt n cells w (fun k => k < B) v l) (hb : Below B w w2) (hB : B ≤ B2) : RowsAt n cells w2 (fun k => k < B2) v l :=
  (h.keep fun k hk _ => hb.block k hk).mono fun k hk _ => by omega
end Go.Proofs.YtmbacegbcccdjaaDoor
