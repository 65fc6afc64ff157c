/-
  Layer 4: the package's variables that are listed; what 'number' computes, of the program and of the document.
  Conditions: none. (My own text.)
-/
import Derived.Test.YtmbacegbcccdjaaDoorKna
import Derived.Test.YtmbacegbcccdjaaDoorShl
import Derived.WalkSmall
import Derived.StillTailTactics
namespace Go.Proofs.YtmbacegbcccdjaaDoor
open Go.RowKit Go.Lib
set_option linter.unusedVariables false
set_option linter.unusedSimpArgs false

/-- What the listed variables hold. -/
structure LaidW (w : World) : Prop where
  tab : Lib.TabIs Tryd.prog w "internal/strconv.uint64pow10" .u64 Lib.pow10Tab
  es : ∃ tp p, w.var? Tryd.prog "strconv.ErrSyntax" = some #[.iface tp p]
  er : ∃ tp p, w.var? Tryd.prog "strconv.ErrRange" = some #[.iface tp p]
  ml : ∃ m, w.cell? ⟨0, 0, none⟩ = some (.int .i64 m)
  sz : 8 ≤ w.heap.size
set_option maxRecDepth 100000 in
theorem LaidW.keep {B : Nat} {w w' : World} (h : LaidW w) (hb : Below B w w') (hB : 8 ≤ B) : LaidW w' where
  tab := by
    have := h.tab
    unfold Lib.TabIs at this ⊢
    exact var?_below (g := 1) hb (by kernel_rfl) (by omega) this
  es := by obtain ⟨tp, p, h1⟩ := h.es; exact ⟨tp, p, var?_below (g := 4) hb (by kernel_rfl) (by omega) h1⟩
  er := by obtain ⟨tp, p, h1⟩ := h.er; exact ⟨tp, p, var?_below (g := 5) hb (by kernel_rfl) (by omega) h1⟩
  ml := by obtain ⟨m, h1⟩ := h.ml; exact ⟨m, (hb.cell (p := ⟨0, 0, none⟩) (by show 0 < B; omega)).trans h1⟩
  sz := Nat.le_trans h.sz (by
    rcases Nat.lt_or_ge w'.heap.size w.heap.size with hl | hl
    · exact absurd hb.size (by omega)
    · exact hl)
theorem LaidW.below {w w' : World} (h : LaidW w) (hb : Below w.heap.size w w') : LaidW w' := h.keep hb h.sz
theorem grow_below (w : World) (k : Nat) (os : Array Obj) : Below w.heap.size w (Sort.grow (w.drewN k) os) where
  os := rfl
  tape := rfl
  output := rfl
  size := by simp [Sort.grow]
  block := fun j hj => by
    show (w.heap ++ os)[j]? = w.heap[j]?
    exact Array.getElem?_append_left hj
theorem itoa_any (n : Int) (h0 : -9223372036854775808 ≤ n) (h1 : n ≤ 9223372036854775807) (w : World) (hL : LaidW w) : Calls Tryd.prog 36 #[.int .i64 n] w fun e w' => e = .returned (.string ⟨(itoa n).toArray⟩) ∧ Below w.heap.size w w' :=
  (Tryd.strconv_Itoa n h0 h1 w hL.tab).mono fun e w' ⟨h1, k, os, h2⟩ => ⟨h1, h2 ▸ grow_below w k os⟩
/-- What Atoi answers: a number; nil or an error. -/
def AtoiE (s : ByteArray) (w : World) (e : Ending) (w' : World) : Prop := (∃ (v : Int) (r : Value) (ok : Bool), e = .returned (.tuple #[.int .i64 v, r]) ∧ (-9223372036854775808 ≤ v ∧ v ≤ 9223372036854775807) ∧
  ((ok = true ∧ r = .nilIface ∧ atoiAll s.data.toList = .ok v) ∨ (ok = false ∧ (∃ T p, r = .iface T p) ∧ ∀ u, atoiAll s.data.toList ≠ .ok u))) ∧ Below w.heap.size w w'
theorem atoi_any (s : ByteArray) (hs : s.size ≤ 281474976710656) (w : World) (hL : LaidW w) : Calls Tryd.prog 58 #[.string s] w (AtoiE s w) := by
  cases h : atoiAll s.data.toList with
  | ok v =>
    refine (Tryd.strconv_Atoi_ok s (by omega) v h w).mono ?_
    rintro e w' ⟨rfl, hw⟩
    refine ⟨⟨v, _, true, rfl, atoiAll_bounds h, .inl ⟨rfl, rfl, h⟩⟩, ?_⟩
    rcases hw with rfl | ⟨t, rfl⟩
    · exact Below.refl _ _
    · exact Lib.bytesWorld_below _ _ _
  | range =>
    obtain ⟨tp, p, hv⟩ := hL.er
    refine (Tryd.strconv_Atoi_range_var s hs h tp p w hv).mono ?_
    rintro e w' ⟨N, rfl, _, _, hb⟩
    exact ⟨⟨_, _, false, rfl, atoiSat_bounds _, .inr ⟨rfl, ⟨_, _, rfl⟩, fun u hu => by rw [h] at hu; cases hu⟩⟩, hb⟩
  | _ =>
    obtain ⟨tp, p, hv⟩ := hL.es
    refine (Tryd.strconv_Atoi_syntax_var s hs h tp p w hv).mono ?_
    rintro e w' ⟨N, rfl, _, _, hb⟩
    exact ⟨⟨0, _, false, rfl, ⟨by decide, by decide⟩, .inr ⟨rfl, ⟨_, _, rfl⟩, fun u hu => by rw [h] at hu; cases hu⟩⟩, hb⟩
end Go.Proofs.YtmbacegbcccdjaaDoor
