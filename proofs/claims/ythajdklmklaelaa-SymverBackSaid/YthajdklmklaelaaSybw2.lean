/-
  Layer 7: SymverBack's walk, a right symbol and a text that is read.
  Conditions: none. (My own text.)
-/
import Derived.Test.YthajdklmklaelaaSybw
namespace Go.Proofs.Ythajdklmklaelaa
open Go.RowKit
set_option linter.unusedVariables false
set_option linter.unusedSimpArgs false

set_option maxHeartbeats 1000000 in
theorem back_walk_yes_some (n v : ByteArray) (o wk d : Bool) (k i a s : Int) (hn : n.size ≤ 140737488351232) (hv : v.size ≤ 140737488351232) (t : ByteArray) (ht : t.size ≤ 140737488351232) (d2 : Bool) (hr : rightS n v o d k i a s = true) (n2 v2 : ByteArray) (o2 : Bool) (hp : parseS t d2 = some (n2, v2, o2)) (w : World) :
    Calls Try.prog 9 #[.agg #[.string n, .string v, .bool o, .int .i64 k, .bool wk, .int .i64 i, .bool d, .int .i64 a, .int .i64 s], .string t, .bool d2] w fun e w' => e = .returned (.bool true) ∧ Below w.heap.size w w' := by
  have A1 := Lib.hid awake_any
  have ln : n.size ≤ maxLen := by unfold maxLen; omega
  have lv : v.size ≤ maxLen := by unfold maxLen; omega
  have ls : (printS n v o d).size ≤ maxLen := by
    have z1 : (⟨#[64]⟩ : ByteArray).size = 1 := rfl
    have z2 : (⟨#[64, 64]⟩ : ByteArray).size = 2 := rfl
    unfold printS maxLen
    split
    · omega
    · split <;> (rw [ByteArray.size_append, ByteArray.size_append]; omega)
  have c0 := fun w : World => right_any n v o wk d k i a s ln lv w
  have c1 := fun w : World => print_any n v o wk d k i a s hn hv w
  have c2 := fun w : World => parse_any (printS n v o d) ls d w
  rw [back_right n v o d k i a s hr] at c2
  rw [hr] at c0
  simp only [if_true, resV, resE, symV] at c0 c2
  generalize printS n v o d = ps at c1 c2
  have lt : t.size ≤ maxLen := by unfold maxLen; omega
  have c4 := fun w : World => parse_any t lt d2 w
  rw [hp] at c4
  simp only [resV, resE, symV] at c4
  have C4 := Lib.hid c4; clear c4
  obtain ⟨fp, fn, fv⟩ := form_back t n2 v2 o2 d2 hp
  have z2 := parse_sizes t n2 v2 o2 d2 hp
  have c5 := fun w : World => print_any n2 v2 o2 false d2 0 0 0 0 (by omega) (by omega) w
  rw [fp] at c5
  have c6 := fun w : World => name_any n2 (by unfold maxLen; omega) w
  rw [fn] at c6
  have c7 := fun w : World => name_any v2 (by unfold maxLen; omega) w
  have C5 := Lib.hid c5; clear c5
  have C6 := Lib.hid c6; clear c6
  have C7 := Lib.hid c7; clear c7
  have FV := Lib.hid fv; clear fv
  clear fp fn z2
  clear hr ls ln lv hn hv lt hp ht
  have C0 := Lib.hid c0; clear c0
  have C1 := Lib.hid c1; clear c1
  have C2 := Lib.hid c2; clear c2
  go_enter Try.func9, Try.ntmps9
  go_wp2_with fail
  refine (A1.out _).mono ?_
  rintro e w1 ⟨rfl, hb1⟩
  have r1 := row_new hb1
  have l1 : w.heap.size < w1.heap.size := by have := hb1.size; simp at this; omega
  have g1 := below_box hb1
  clear hb1
  go_wp2_with fail
  refine (C0.out _).mono ?_
  rintro e w2 ⟨rfl, hb2⟩
  have r2 := row_stay hb2 r1 l1
  have g2 := g1.trans (hb2.mono g1.size)
  have l2 : w.heap.size < w2.heap.size := Nat.lt_of_lt_of_le l1 hb2.size
  clear r1 hb2
  go_wp2_with fail
  have R : Rowed w.heap.size _ w w2 := ⟨r2, l2, g2⟩
  clear r2 g2 l2
  go_cut [8, 9] (fun t8 t9 wx => ∃ g, t8 = .pointer (some ⟨g, 0, none⟩) ∧ t9 = .int .i64 0 ∧ w.heap.size < g ∧ Sym9 g #[.string n, .string v, .bool o, .int .i64 0, .bool false, .int .i64 0, .bool d, .int .i64 0, .int .i64 0] wx ∧ Rowed w.heap.size #[.string n, .string v, .bool o, .int .i64 k, .bool wk, .int .i64 i, .bool d, .int .i64 a, .int .i64 s] w wx)
  case first =>
    go_region_held3 (fun w' => (∀ k_ : Nat, w'.cell? ⟨w.heap.size, k_, none⟩ = (#[.string n, .string v, .bool o, .int .i64 k, .bool wk, .int .i64 i, .bool d, .int .i64 a, .int .i64 s] : Array Value)[k_]?) ∧ w.heap.size < w'.heap.size ∧ Below w.heap.size w w')
      (with_reducible (first | (exact R.drew) | (refine Rowed.put9 (w1 := ?_) ?_ ?_ _ _ _ _ _ _ _ _ _ <;> first | exact ((R.drew.keep hb2).alloc _).keep hb3 | exact ((R.alloc _).drew.keep hb2).keep hb3 | exact (R.drew.keep hb2).2.1 | exact R.2.1) | (exact Rowed.alloc ‹_› _) | (exact ((R.drew.keep hb2).keep hb3).alloc _) | (exact Rowed.keep ‹_› ‹_›) | (exact (R.alloc _).drew) | fail "no row"))
      (first
        | (go_at_call 21; refine (C1.out _).mono ?_; rintro e w' ⟨rfl, hb2⟩; try (first | have sN := Sym9.new hb2 | have sN := Sym9.newd hb2); try (have cN := sN.cell; have fN := sN.free))
        | (go_at_call 11; refine (C2.out _).mono ?_; rintro e w' ⟨rfl, hb3⟩; first | (have sM := Sym9.stay sN hb3; have cM := sM.cell; have fM := sM.free) | (have sN := Sym9.new hb3; have cN := sN.cell; have fN := sN.free) | skip))
    all_goals (go_wp2_with fail; go_meet; refine ⟨_, rfl, rfl, ?_, ?_, by assumption⟩)
    all_goals with_reducible (first
      | exact ((R.drew.keep hb2).keep hb3).2.1
      | exact (R.drew.keep hb2).2.1
      | exact R.2.1
      | exact sM.put rfl _ _ _ _ _ _ _ _ _
      | exact sN.put rfl _ _ _ _ _ _ _ _ _
      | skip)
    all_goals first | exact heap_alloc_new _ _ | trace_state
  case rest =>
    obtain ⟨g, rfl, rfl, hg, hs, hR⟩ := hcut
    have cR := hR.1
    have cS := hs.cell
    go_wp2_with fail
    refine (C4.out _).mono ?_
    rintro e w5 ⟨rfl, hb5⟩
    have g5 := hR.2.2.trans (hb5.mono (Nat.le_of_lt hR.2.1))
    have l5 : w.heap.size < w5.heap.size := Nat.lt_of_lt_of_le hR.2.1 hb5.size
    clear hR cR cS hs hg hb5 R
    go_wp2_with fail
    have r1 : ∀ k_ : Nat, (w5.alloc (.cells #[.string n2, .string v2, .bool o2, .int .i64 0, .bool false, .int .i64 0, .bool d2, .int .i64 0, .int .i64 0] 26)).cell? ⟨w5.heap.size, k_, none⟩ = (#[.string n2, .string v2, .bool o2, .int .i64 0, .bool false, .int .i64 0, .bool d2, .int .i64 0, .int .i64 0] : Array Value)[k_]? := fun k_ => World.cell?_alloc_at _ _ _ _ rfl
    have hb0 := g5.alloc (Nat.le_of_lt l5) (.cells #[.string n2, .string v2, .bool o2, .int .i64 0, .bool false, .int .i64 0, .bool d2, .int .i64 0, .int .i64 0] 26)
    have hz : w5.heap.size < (w5.alloc (.cells #[.string n2, .string v2, .bool o2, .int .i64 0, .bool false, .int .i64 0, .bool d2, .int .i64 0, .int .i64 0] 26)).heap.size := by simp
    generalize (w5.alloc (.cells #[.string n2, .string v2, .bool o2, .int .i64 0, .bool false, .int .i64 0, .bool d2, .int .i64 0, .int .i64 0] 26)) = w6 at r1 hb0 hz ⊢
    clear g5 l5
    refine (C5.out _).mono ?_
    rintro e w7 ⟨rfl, hb7⟩
    have r7 := row_stay hb7 r1 hz
    have l7 : w5.heap.size < w7.heap.size := Nat.lt_of_lt_of_le hz hb7.size
    have g7 := hb0.trans (hb7.mono hb0.size)
    clear r1 hz hb0 hb7
    go_wp2_with fail
    refine (C6.out _).mono ?_
    rintro e w8 ⟨rfl, hb8⟩
    have r8 := row_stay hb8 r7 l7
    have g8 := g7.trans (hb8.mono g7.size)
    clear r7 l7 g7 hb8
    rcases FV.out with fv | fv
    · go_wp2
      go_ret
      exact ⟨by simp, g8⟩
    · have fe := not_empty fv
      rw [fv] at C7
      clear fv
      go_wp2_with fail
      refine (C7.out _).mono ?_
      rintro e w9 ⟨rfl, hb9⟩
      have g9 := g8.trans (hb9.mono g8.size)
      clear g8 hb9
      go_wp2
      go_ret
      exact ⟨by simp, g9⟩
end Go.Proofs.Ythajdklmklaelaa
