/-
  Layer 7: SymverBack's walk.
  Conditions: none. (My own text.)
-/
import Derived.Test.YthajdklmklaelaaSyb
import Derived.Test.YthajdklmklaelaaSyuu
import Derived.Test.YthajdklmklaelaaSyh
import Derived.Deep.RegionHeld3
import Derived.Deep.DeepCutAuto
namespace Go.Proofs.Ythajdklmklaelaa
open Go.RowKit
set_option linter.unusedVariables false
set_option linter.unusedSimpArgs false

/-- A row of cells at g, in a world that is as w was below g. -/
abbrev Rowed (g : Nat) (cs : Array Value) (w w' : World) : Prop := (∀ k_ : Nat, w'.cell? ⟨g, k_, none⟩ = cs[k_]?) ∧ g < w'.heap.size ∧ Below g w w'
theorem Rowed.keep {g : Nat} {cs : Array Value} {w w1 w2 : World} (h : Rowed g cs w w1) (hb : Below w1.heap.size w1 w2) : Rowed g cs w w2 :=
  ⟨row_stay hb h.1 h.2.1, Nat.lt_of_lt_of_le h.2.1 hb.size, h.2.2.trans (hb.mono (Nat.le_of_lt h.2.1))⟩
theorem Rowed.drew {g : Nat} {cs : Array Value} {w w1 : World} (h : Rowed g cs w w1) : Rowed g cs w w1.drew := ⟨h.1, h.2.1, h.2.2.drew⟩
theorem Rowed.alloc {g : Nat} {cs : Array Value} {w w1 : World} (h : Rowed g cs w w1) (o : Obj) : Rowed g cs w (w1.alloc o) :=
  ⟨fun k_ => (World.cell?_alloc_lt _ _ _ h.2.1).trans (h.1 k_), by have := h.2.1; simp; omega, h.2.2.alloc (Nat.le_of_lt h.2.1) _⟩

theorem Rowed.put {g : Nat} {cs : Array Value} {w w1 : World} (h : Rowed g cs w w1) {p : Addr} (hp : g < p.block) (v : Value) : Rowed g cs w (w1.setCell p v) :=
  ⟨fun k_ => (World.cell?_setCell_other _ _ _ _ (fun h => by have h1 := congrArg Addr.block h; simp at h1; omega)).trans (h.1 k_), by have := h.2.1; simpa [World.setCell] using this, h.2.2.setCell (Nat.le_of_lt hp) _⟩
/-- A symbol's block. -/
def Sym9 (g : Nat) (cs : Array Value) (w : World) : Prop := w.heap[g]? = some (.cells cs 26 (0, 0))
abbrev zero9 : Array Value := #[.string ⟨#[]⟩, .string ⟨#[]⟩, .bool false, .int .i64 0, .bool false, .int .i64 0, .bool false, .int .i64 0, .int .i64 0]
theorem Sym9.new {w1 w2 : World} {cs : Array Value} (h : Below (w1.alloc (.cells cs 26)).heap.size (w1.alloc (.cells cs 26)) w2) : Sym9 w1.heap.size cs w2 :=
  (h.block w1.heap.size (by simp)).trans (heap_alloc_new w1 _)
theorem Sym9.lt {g : Nat} {cs : Array Value} {w : World} (h : Sym9 g cs w) : g < w.heap.size := by
  rcases Nat.lt_or_ge g w.heap.size with h' | h'
  · exact h'
  · unfold Sym9 at h; rw [Array.getElem?_eq_none h'] at h; cases h
theorem Sym9.stay {w1 w2 : World} {g : Nat} {cs : Array Value} (hs : Sym9 g cs w1) (h : Below w1.heap.size w1 w2) : Sym9 g cs w2 := (h.block g hs.lt).trans hs
theorem Sym9.cell {w1 : World} {g : Nat} {cs : Array Value} (hs : Sym9 g cs w1) (k_ : Nat) : w1.cell? ⟨g, k_, none⟩ = cs[k_]? := cell_of_row w1 g k_ _ _ _ hs
theorem Sym9.free {w1 : World} {g : Nat} {cs : Array Value} (hs : Sym9 g cs w1) (k_ : Nat) : w1.frozen? ⟨g, k_, none⟩ = false := frozen_of_row w1 g k_ _ _ hs
theorem Sym9.put {w1 : World} {g : Nat} {cs : Array Value} (hs : Sym9 g cs w1) (hc : cs.size = 9) (v0 v1 v2 v3 v4 v5 v6 v7 v8 : Value) : Sym9 g #[v0, v1, v2, v3, v4, v5, v6, v7, v8]
    (((((((((w1.setCell ⟨g, 0, none⟩ v0).setCell ⟨g, 1, none⟩ v1).setCell ⟨g, 2, none⟩ v2).setCell ⟨g, 3, none⟩ v3).setCell ⟨g, 4, none⟩ v4).setCell ⟨g, 5, none⟩ v5).setCell ⟨g, 6, none⟩ v6).setCell ⟨g, 7, none⟩ v7).setCell ⟨g, 8, none⟩ v8) := set9 hs hc _ _ _ _ _ _ _ _ _
theorem Rowed.put9 {g g' : Nat} {cs : Array Value} {w w1 : World} (h : Rowed g cs w w1) (hp : g < g') (v0 v1 v2 v3 v4 v5 v6 v7 v8 : Value) : Rowed g cs w
    (((((((((w1.setCell ⟨g', 0, none⟩ v0).setCell ⟨g', 1, none⟩ v1).setCell ⟨g', 2, none⟩ v2).setCell ⟨g', 3, none⟩ v3).setCell ⟨g', 4, none⟩ v4).setCell ⟨g', 5, none⟩ v5).setCell ⟨g', 6, none⟩ v6).setCell ⟨g', 7, none⟩ v7).setCell ⟨g', 8, none⟩ v8) :=
  ((((((((h.put (p := ⟨g', 0, none⟩) hp v0).put (p := ⟨g', 1, none⟩) hp v1).put (p := ⟨g', 2, none⟩) hp v2).put (p := ⟨g', 3, none⟩) hp v3).put (p := ⟨g', 4, none⟩) hp v4).put (p := ⟨g', 5, none⟩) hp v5).put (p := ⟨g', 6, none⟩) hp v6).put (p := ⟨g', 7, none⟩) hp v7).put (p := ⟨g', 8, none⟩) hp v8
theorem Sym9.newd {w1 w2 : World} {cs : Array Value} (h : Below (w1.alloc (.cells cs 26)).drew.heap.size (w1.alloc (.cells cs 26)).drew w2) : Sym9 w1.heap.size cs w2 :=
  (h.block w1.heap.size (by show _ < (w1.alloc (.cells cs 26)).heap.size; simp)).trans (heap_alloc_new w1 _)
theorem Rowed.box {g : Nat} {cs : Array Value} {w w1 : World} (h : Rowed g cs w w1) : g < w1.heap.size := h.2.1

set_option maxHeartbeats 400000 in
theorem back_walk_yes_none (n v : ByteArray) (o wk d : Bool) (k i a s : Int) (hn : n.size ≤ 140737488351232) (hv : v.size ≤ 140737488351232) (t : ByteArray) (ht : t.size ≤ 140737488351232) (d2 : Bool) (hr : rightS n v o d k i a s = true) (hp : parseS t d2 = none) (w : World) :
    Calls Try.prog 9 #[.agg #[.string n, .string v, .bool o, .int .i64 k, .bool wk, .int .i64 i, .bool d, .int .i64 a, .int .i64 s], .string t, .bool d2] w fun e w' => e = .returned (.bool true) ∧ Below w.heap.size w w' := by
  have A1 := Lib.hid awake_any
  have ln : n.size ≤ maxLen := by unfold maxLen; omega
  have lv : v.size ≤ maxLen := by unfold maxLen; omega
  have ls : (printS n v o d).size ≤ maxLen := by
    have z1 : (⟨#[64]⟩ : ByteArray).size = 1 := rfl
    have z2 : (⟨#[64, 64]⟩ : ByteArray).size = 2 := rfl
    unfold printS maxLen
    split
    · omega
    · split <;> (rw [ByteArray.size_append, ByteArray.size_append]; omega)
  have c0 := fun w : World => right_any n v o wk d k i a s ln lv w
  have c1 := fun w : World => print_any n v o wk d k i a s hn hv w
  have c2 := fun w : World => parse_any (printS n v o d) ls d w
  rw [back_right n v o d k i a s hr] at c2
  rw [hr] at c0
  simp only [if_true, resV, resE, symV] at c0 c2
  generalize printS n v o d = ps at c1 c2
  have lt : t.size ≤ maxLen := by unfold maxLen; omega
  have c4 := fun w : World => parse_any t lt d2 w
  rw [hp] at c4
  simp only [resV, resE, symV] at c4
  have C4 := Lib.hid c4; clear c4
  clear hr ls ln lv hn hv lt hp ht
  have C0 := Lib.hid c0; clear c0
  have C1 := Lib.hid c1; clear c1
  have C2 := Lib.hid c2; clear c2
  go_enter Try.func9, Try.ntmps9
  go_wp2_with fail
  refine (A1.out _).mono ?_
  rintro e w1 ⟨rfl, hb1⟩
  have r1 := row_new hb1
  have l1 : w.heap.size < w1.heap.size := by have := hb1.size; simp at this; omega
  have g1 := below_box hb1
  clear hb1
  go_wp2_with fail
  refine (C0.out _).mono ?_
  rintro e w2 ⟨rfl, hb2⟩
  have r2 := row_stay hb2 r1 l1
  have g2 := g1.trans (hb2.mono g1.size)
  have l2 : w.heap.size < w2.heap.size := Nat.lt_of_lt_of_le l1 hb2.size
  clear r1 hb2
  go_wp2_with fail
  have R : Rowed w.heap.size _ w w2 := ⟨r2, l2, g2⟩
  clear r2 g2 l2
  go_cut [8, 9] (fun t8 t9 wx => ∃ g, t8 = .pointer (some ⟨g, 0, none⟩) ∧ t9 = .int .i64 0 ∧ w.heap.size < g ∧ Sym9 g #[.string n, .string v, .bool o, .int .i64 0, .bool false, .int .i64 0, .bool d, .int .i64 0, .int .i64 0] wx ∧ Rowed w.heap.size #[.string n, .string v, .bool o, .int .i64 k, .bool wk, .int .i64 i, .bool d, .int .i64 a, .int .i64 s] w wx)
  case first =>
    go_region_held3? (fun w' => (∀ k_ : Nat, w'.cell? ⟨w.heap.size, k_, none⟩ = (#[.string n, .string v, .bool o, .int .i64 k, .bool wk, .int .i64 i, .bool d, .int .i64 a, .int .i64 s] : Array Value)[k_]?) ∧ w.heap.size < w'.heap.size ∧ Below w.heap.size w w')
      (with_reducible (first | (exact R.drew) | (refine Rowed.put9 (w1 := ?_) ?_ ?_ _ _ _ _ _ _ _ _ _ <;> first | exact ((R.drew.keep hb2).alloc _).keep hb3 | exact ((R.alloc _).drew.keep hb2).keep hb3 | exact (R.drew.keep hb2).2.1 | exact R.2.1) | (exact Rowed.alloc ‹_› _) | (exact ((R.drew.keep hb2).keep hb3).alloc _) | (exact Rowed.keep ‹_› ‹_›) | (exact (R.alloc _).drew) | fail "no row"))
      (first
        | (go_at_call 21; refine (C1.out _).mono ?_; rintro e w' ⟨rfl, hb2⟩; try (first | have sN := Sym9.new hb2 | have sN := Sym9.newd hb2); try (have cN := sN.cell; have fN := sN.free))
        | (go_at_call 11; refine (C2.out _).mono ?_; rintro e w' ⟨rfl, hb3⟩; first | (have sM := Sym9.stay sN hb3; have cM := sM.cell; have fM := sM.free) | (have sN := Sym9.new hb3; have cN := sN.cell; have fN := sN.free) | skip))
    all_goals (go_wp2_with fail; go_meet; refine ⟨_, rfl, rfl, ?_, ?_, by assumption⟩)
    all_goals with_reducible (first
      | exact ((R.drew.keep hb2).keep hb3).2.1
      | exact (R.drew.keep hb2).2.1
      | exact R.2.1
      | exact sM.put rfl _ _ _ _ _ _ _ _ _
      | exact sN.put rfl _ _ _ _ _ _ _ _ _
      | skip)
    all_goals first | exact heap_alloc_new _ _ | trace_state
  case rest =>
    obtain ⟨g, rfl, rfl, hg, hs, hR⟩ := hcut
    have cR := hR.1
    have cS := hs.cell
    go_wp2_with fail
    refine (C4.out _).mono ?_
    rintro e w5 ⟨rfl, hb5⟩
    have g5 := hR.2.2.trans (hb5.mono (Nat.le_of_lt hR.2.1))
    have l5 : w.heap.size < w5.heap.size := Nat.lt_of_lt_of_le hR.2.1 hb5.size
    clear hR cR cS hs hg hb5 R
    go_wp2
    go_ret
    exact ⟨by simp, g5.alloc (Nat.le_of_lt l5) _⟩
end Go.Proofs.Ythajdklmklaelaa
