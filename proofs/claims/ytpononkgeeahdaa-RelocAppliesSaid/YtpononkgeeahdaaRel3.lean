/-
  clevislaw16: RelocWords, RelocMoves, RelocMissing: the walks of the laws.
  Conditions: none. (My own text.)
-/
import Derived.Test.YtpononkgeeahdaaRelw
import Derived.Deep.RegionHeld3
namespace Go.Proofs.Ytpononkgeeahdaa
open Go.RowKit
set_option linter.unusedVariables false
set_option linter.unusedSimpArgs false

theorem awake_any (w : World) : Calls Try.prog 13 #[] w fun e w' => e = .returned (.bool true) ∧ Below w.heap.size w w' := by
  have c1 : ∀ w, Calls Try.prog 10 #[.agg #[.int .i64 0, .int .i64 0, .int .i64 0, .int .i64 8], .agg #[.int .i64 0, .int .i64 5000, .int .i64 0, .int .i64 0, .int .i64 0, .int .i64 0, .bool false, .bool false]] w fun e w' =>
      e = .returned (.tuple #[.int .i64 5008, .int .i64 0]) ∧ Below w.heap.size w w' := fun w => (rword_any 0 0 0 8 0 5000 0 0 0 0 false false w).mono fun e w' h => by rw [show relWord 0 0 8 0 5000 0 0 0 0 false false = (5008, 0) from by decide +kernel] at h; exact h
  have c2 : ∀ w, Calls Try.prog 10 #[.agg #[.int .i64 16, .int .i64 6, .int .i64 0, .int .i64 0], .agg #[.int .i64 4096, .int .i64 5000, .int .i64 0, .int .i64 0, .int .i64 0, .int .i64 0, .bool false, .bool false]] w fun e w' =>
      e = .returned (.tuple #[.int .i64 888, .int .i64 0]) ∧ Below w.heap.size w w' := fun w => (rword_any 16 6 0 0 4096 5000 0 0 0 0 false false w).mono fun e w' h => by rw [show relWord 16 6 0 4096 5000 0 0 0 0 false false = (888, 0) from by decide +kernel] at h; exact h
  have c3 : ∀ w, Calls Try.prog 10 #[.agg #[.int .i64 0, .int .i64 5, .int .i64 0, .int .i64 0], .agg #[.int .i64 0, .int .i64 0, .int .i64 0, .int .i64 0, .int .i64 0, .int .i64 0, .bool false, .bool false]] w fun e w' =>
      e = .returned (.tuple #[.int .i64 0, .int .i64 161]) ∧ Below w.heap.size w w' := fun w => (rword_any 0 5 0 0 0 0 0 0 0 0 false false w).mono fun e w' h => by rw [show relWord 0 5 0 0 0 0 0 0 0 false false = (0, 161) from by decide +kernel] at h; exact h
  have C1 := Lib.hid c1; clear c1
  have C2 := Lib.hid c2; clear c2
  have C3 := Lib.hid c3; clear c3
  go_enter Try.func13, Try.ntmps13
  go_wp2_with fail
  refine (C1.out _).mono ?_
  rintro e w1 ⟨rfl, hb1⟩
  go_wp2_with fail
  refine (C2.out _).mono ?_
  rintro e w2 ⟨rfl, hb2⟩
  go_wp2_with fail
  refine (C3.out _).mono ?_
  rintro e w3 ⟨rfl, hb3⟩
  go_wp2
  go_ret
  exact ⟨rfl, (hb1.trans (hb2.mono hb1.size)).trans (hb3.mono (Nat.le_trans hb1.size hb2.size))⟩


/-- The two boxes of the law's arguments. -/
def Boxes (at_ kind sym add base addr size mod off beh : Int) (st mi : Bool) (w w' : World) : Prop :=
  w'.cell? ⟨w.heap.size, 0, none⟩ = some (.int .i64 at_) ∧ w'.cell? ⟨w.heap.size, 1, none⟩ = some (.int .i64 kind) ∧ w'.cell? ⟨w.heap.size, 2, none⟩ = some (.int .i64 sym) ∧ w'.cell? ⟨w.heap.size, 3, none⟩ = some (.int .i64 add) ∧ w'.cell? ⟨w.heap.size + 1, 0, none⟩ = some (.int .i64 base) ∧ w'.cell? ⟨w.heap.size + 1, 1, none⟩ = some (.int .i64 addr) ∧ w'.cell? ⟨w.heap.size + 1, 2, none⟩ = some (.int .i64 size) ∧ w'.cell? ⟨w.heap.size + 1, 3, none⟩ = some (.int .i64 mod) ∧ w'.cell? ⟨w.heap.size + 1, 4, none⟩ = some (.int .i64 off) ∧ w'.cell? ⟨w.heap.size + 1, 5, none⟩ = some (.int .i64 beh) ∧ w'.cell? ⟨w.heap.size + 1, 6, none⟩ = some (.bool st) ∧ w'.cell? ⟨w.heap.size + 1, 7, none⟩ = some (.bool mi) ∧ w.heap.size + 2 ≤ w'.heap.size ∧ Below w.heap.size w w'
theorem Boxes.keep {at_ kind sym add base addr size mod off beh : Int} {st mi : Bool} {w w1 w2 : World} (h : Boxes at_ kind sym add base addr size mod off beh st mi w w1) (hb : Below w1.heap.size w1 w2) : Boxes at_ kind sym add base addr size mod off beh st mi w w2 := by
  obtain ⟨h1, h2, h3, h4, h5, h6, h7, h8, h9, h10, h11, h12, hs, hbel⟩ := h
  have k : ∀ b o, b < w.heap.size + 2 → w2.cell? ⟨b, o, none⟩ = w1.cell? ⟨b, o, none⟩ := fun b o hl => hb.cell (p := ⟨b, o, none⟩) (by simp; omega)
  refine ⟨(k _ _ (by omega)).trans h1, (k _ _ (by omega)).trans h2, (k _ _ (by omega)).trans h3, (k _ _ (by omega)).trans h4, (k _ _ (by omega)).trans h5, (k _ _ (by omega)).trans h6, (k _ _ (by omega)).trans h7, (k _ _ (by omega)).trans h8,
    (k _ _ (by omega)).trans h9, (k _ _ (by omega)).trans h10, (k _ _ (by omega)).trans h11, (k _ _ (by omega)).trans h12, Nat.le_trans hs hb.size, hbel.trans (hb.mono (by omega))⟩
theorem Boxes.drew {at_ kind sym add base addr size mod off beh : Int} {st mi : Bool} {w w1 : World} (h : Boxes at_ kind sym add base addr size mod off beh st mi w w1) : Boxes at_ kind sym add base addr size mod off beh st mi w w1.drew := by
  obtain ⟨h1, h2, h3, h4, h5, h6, h7, h8, h9, h10, h11, h12, hs, hbel⟩ := h
  exact ⟨h1, h2, h3, h4, h5, h6, h7, h8, h9, h10, h11, h12, hs, hbel.drew⟩
theorem boxes_new (at_ kind sym add base addr size mod off beh : Int) (st mi : Bool) (w : World) (t t' : TypeId) : Boxes at_ kind sym add base addr size mod off beh st mi w
    ((w.alloc (.cells #[.int .i64 at_, .int .i64 kind, .int .i64 sym, .int .i64 add] t)).alloc (.cells #[.int .i64 base, .int .i64 addr, .int .i64 size, .int .i64 mod, .int .i64 off, .int .i64 beh, .bool st, .bool mi] t')) := by
  refine ⟨?_, ?_, ?_, ?_, ?_, ?_, ?_, ?_, ?_, ?_, ?_, ?_, by simp, ((Below.refl _ _).alloc (Nat.le_refl _) _).alloc (by simp) _⟩ <;> simp [go_sem]

set_option maxHeartbeats 1000000 in
theorem rwords_walk (at_ kind sym add base addr size mod off beh : Int) (st mi : Bool) (w : World) :
    Calls Try.prog 3 #[.agg #[.int .i64 at_, .int .i64 kind, .int .i64 sym, .int .i64 add], .agg #[.int .i64 base, .int .i64 addr, .int .i64 size, .int .i64 mod, .int .i64 off, .int .i64 beh, .bool st, .bool mi]] w fun e w' =>
      e = .returned (.bool true) ∧ Below w.heap.size w w' := by
  obtain ⟨n, er, hx⟩ : ∃ n er, relWord at_ kind add base addr size mod off beh st mi = (n, er) := ⟨_, _, rfl⟩
  have c1 : ∀ w, Calls Try.prog 10 #[.agg #[.int .i64 at_, .int .i64 kind, .int .i64 sym, .int .i64 add], .agg #[.int .i64 base, .int .i64 addr, .int .i64 size, .int .i64 mod, .int .i64 off, .int .i64 beh, .bool st, .bool mi]] w fun e w' =>
      e = .returned (.tuple #[.int .i64 n, .int .i64 er]) ∧ Below w.heap.size w w' := fun w => (rword_any at_ kind sym add base addr size mod off beh st mi w).mono fun e w' h => by rw [hx] at h; exact h
  have c2 : ∀ w, Calls Try.prog 11 #[.agg #[.int .i64 at_, .int .i64 kind, .int .i64 sym, .int .i64 add], .agg #[.int .i64 base, .int .i64 addr, .int .i64 size, .int .i64 mod, .int .i64 off, .int .i64 beh, .bool st, .bool mi]] w fun e w' =>
      e = .returned (.tuple #[.int .i64 n, .int .i64 er]) ∧ Below w.heap.size w w' := fun w => (refWord_any at_ kind sym add base addr size mod off beh st mi w).mono fun e w' h => by rw [← rel_same, hx] at h; exact h
  have C1 := Lib.hid c1; clear c1
  have C2 := Lib.hid c2; clear c2
  clear hx
  go_enter Try.func3, Try.ntmps3
  go_wp2_with fail
  refine (C1.out _).mono ?_
  rintro e w1 ⟨rfl, hb1⟩
  have B1 : Boxes at_ kind sym add base addr size mod off beh st mi w w1 := (boxes_new at_ kind sym add base addr size mod off beh st mi w _ _).keep hb1
  have B1' := B1
  obtain ⟨h1, h2, h3, h4, h5, h6, h7, h8, h9, h10, h11, h12, hs1, hbel1⟩ := B1'
  clear hb1
  have a1 : ∀ w2 : World, Calls Try.prog 13 #[] w2 fun e w' => e = .returned (.bool true) ∧ Below w2.heap.size w2 w' := awake_any
  have A1 := Lib.hid a1; clear a1
  go_wp2_with fail
  go_region_held3 (fun w' => w'.cell? ⟨w.heap.size, 0, none⟩ = some (.int .i64 at_) ∧ w'.cell? ⟨w.heap.size, 1, none⟩ = some (.int .i64 kind) ∧ w'.cell? ⟨w.heap.size, 2, none⟩ = some (.int .i64 sym) ∧ w'.cell? ⟨w.heap.size, 3, none⟩ = some (.int .i64 add) ∧ w'.cell? ⟨w.heap.size + 1, 0, none⟩ = some (.int .i64 base) ∧ w'.cell? ⟨w.heap.size + 1, 1, none⟩ = some (.int .i64 addr) ∧ w'.cell? ⟨w.heap.size + 1, 2, none⟩ = some (.int .i64 size) ∧ w'.cell? ⟨w.heap.size + 1, 3, none⟩ = some (.int .i64 mod) ∧ w'.cell? ⟨w.heap.size + 1, 4, none⟩ = some (.int .i64 off) ∧ w'.cell? ⟨w.heap.size + 1, 5, none⟩ = some (.int .i64 beh) ∧ w'.cell? ⟨w.heap.size + 1, 6, none⟩ = some (.bool st) ∧ w'.cell? ⟨w.heap.size + 1, 7, none⟩ = some (.bool mi) ∧ w.heap.size + 2 ≤ w'.heap.size ∧ Below w.heap.size w w') (first | exact B1 | exact Boxes.drew ‹_› | exact Boxes.keep ‹_› ‹_›)
    (first
      | (go_at_call 12; refine (fact_any base addr size mod off beh st mi _).mono ?_; rintro e w' ⟨rfl, hb2⟩)
      | (go_at_call 11; refine (C2.out _).mono ?_; rintro e w' ⟨rfl, hb3⟩))
  rename_i w3 hHeld
  have hb4 : Below w.heap.size w w' := (show Boxes at_ kind sym add base addr size mod off beh st mi w w' from hHeld).2.2.2.2.2.2.2.2.2.2.2.2.2
  clear hHeld h1 h2 h3 h4 h5 h6 h7 h8 h9 h10 h11 h12
  go_wp2_with fail
  refine (A1.out _).mono ?_
  rintro e w5 ⟨rfl, hb5⟩
  go_wp2
  go_ret
  exact ⟨by simp, hb4.trans (hb5.mono hb4.size)⟩


theorem wrap64_same {n : Int} (h1 : -9223372036854775808 ≤ n) (h2 : n ≤ 9223372036854775807) : wrap64 n = n := by unfold wrap64; omega


set_option maxHeartbeats 1000000 in
theorem missing_0 (at_ sym add base addr size mod off beh : Int) (st mi : Bool) (w : World)
    (c1 : ∀ w, Calls Try.prog 10 #[.agg #[.int .i64 at_, .int .i64 0, .int .i64 sym, .int .i64 add], .agg #[.int .i64 base, .int .i64 addr, .int .i64 size, .int .i64 mod, .int .i64 off, .int .i64 beh, .bool st, .bool true]] w fun e w' => e = .returned (.tuple #[.int .i64 0, .int .i64 0]) ∧ Below w.heap.size w w') :
    Calls Try.prog 5 #[.agg #[.int .i64 at_, .int .i64 0, .int .i64 sym, .int .i64 add], .agg #[.int .i64 base, .int .i64 addr, .int .i64 size, .int .i64 mod, .int .i64 off, .int .i64 beh, .bool st, .bool mi]] w fun e w' => e = .returned (.bool true) ∧ Below w.heap.size w w' := by
  have C1 := Lib.hid c1; clear c1
  have A1 := Lib.hid awake_any
  have B0 := boxes_new at_ (0 : Int) sym add base addr size mod off beh st mi w 24 26
  go_enter Try.func5, Try.ntmps5
  go_wp2_with fail
  refine (A1.out _).mono ?_
  rintro e w1 ⟨rfl, hb1⟩
  have B1 := B0.keep hb1
  have hf : w1.frozen? ⟨w.heap.size + 1, 7, none⟩ = false := (hb1.frozen (p := ⟨w.heap.size + 1, 7, none⟩) (by simp)).trans (by simp [go_sem])
  obtain ⟨h1, h2, h3, h4, h5, h6, h7, h8, h9, h10, h11, h12, hs1, hbel1⟩ := B1
  clear hb1 B0
  go_wp2_with fail
  refine (C1.out _).mono ?_
  rintro e w2 ⟨rfl, hb2⟩
  have hk : w2.cell? ⟨w.heap.size, 1, none⟩ = some (.int .i64 0) := (hb2.cell (p := ⟨w.heap.size, 1, none⟩) (by simp [World.setCell]; omega)).trans ((World.cell?_setCell_other _ _ _ _ (by simp)).trans h2)
  have hb3 : Below w.heap.size w w2 := (hbel1.setCell (p := ⟨w.heap.size + 1, 7, none⟩) (by simp) _).trans (hb2.mono (by simp [World.setCell]; omega))
  clear hb2 hbel1 h1 h2 h3 h4 h5 h6 h7 h8 h9 h10 h11 h12 hf
  go_wp2
  go_ret
  exact ⟨by simp, hb3⟩

set_option maxHeartbeats 1000000 in
theorem missing_6 (at_ sym add base addr size mod off beh : Int) (st mi : Bool) (w : World)
    (c1 : ∀ w, Calls Try.prog 10 #[.agg #[.int .i64 at_, .int .i64 6, .int .i64 sym, .int .i64 add], .agg #[.int .i64 base, .int .i64 addr, .int .i64 size, .int .i64 mod, .int .i64 off, .int .i64 beh, .bool st, .bool true]] w fun e w' => e = .returned (.tuple #[.int .i64 0, .int .i64 0]) ∧ Below w.heap.size w w') :
    Calls Try.prog 5 #[.agg #[.int .i64 at_, .int .i64 6, .int .i64 sym, .int .i64 add], .agg #[.int .i64 base, .int .i64 addr, .int .i64 size, .int .i64 mod, .int .i64 off, .int .i64 beh, .bool st, .bool mi]] w fun e w' => e = .returned (.bool true) ∧ Below w.heap.size w w' := by
  have C1 := Lib.hid c1; clear c1
  have A1 := Lib.hid awake_any
  have B0 := boxes_new at_ (6 : Int) sym add base addr size mod off beh st mi w 24 26
  go_enter Try.func5, Try.ntmps5
  go_wp2_with fail
  refine (A1.out _).mono ?_
  rintro e w1 ⟨rfl, hb1⟩
  have B1 := B0.keep hb1
  have hf : w1.frozen? ⟨w.heap.size + 1, 7, none⟩ = false := (hb1.frozen (p := ⟨w.heap.size + 1, 7, none⟩) (by simp)).trans (by simp [go_sem])
  obtain ⟨h1, h2, h3, h4, h5, h6, h7, h8, h9, h10, h11, h12, hs1, hbel1⟩ := B1
  clear hb1 B0
  go_wp2_with fail
  refine (C1.out _).mono ?_
  rintro e w2 ⟨rfl, hb2⟩
  have hk : w2.cell? ⟨w.heap.size, 1, none⟩ = some (.int .i64 6) := (hb2.cell (p := ⟨w.heap.size, 1, none⟩) (by simp [World.setCell]; omega)).trans ((World.cell?_setCell_other _ _ _ _ (by simp)).trans h2)
  have hb3 : Below w.heap.size w w2 := (hbel1.setCell (p := ⟨w.heap.size + 1, 7, none⟩) (by simp) _).trans (hb2.mono (by simp [World.setCell]; omega))
  clear hb2 hbel1 h1 h2 h3 h4 h5 h6 h7 h8 h9 h10 h11 h12 hf
  go_wp2
  go_ret
  exact ⟨by simp, hb3⟩

set_option maxHeartbeats 1000000 in
theorem missing_5 (at_ sym add base addr size mod off beh : Int) (st mi : Bool) (w : World)
    (c1 : ∀ w, Calls Try.prog 10 #[.agg #[.int .i64 at_, .int .i64 5, .int .i64 sym, .int .i64 add], .agg #[.int .i64 base, .int .i64 addr, .int .i64 size, .int .i64 mod, .int .i64 off, .int .i64 beh, .bool st, .bool true]] w fun e w' => e = .returned (.tuple #[.int .i64 0, .int .i64 0]) ∧ Below w.heap.size w w') :
    Calls Try.prog 5 #[.agg #[.int .i64 at_, .int .i64 5, .int .i64 sym, .int .i64 add], .agg #[.int .i64 base, .int .i64 addr, .int .i64 size, .int .i64 mod, .int .i64 off, .int .i64 beh, .bool st, .bool mi]] w fun e w' => e = .returned (.bool true) ∧ Below w.heap.size w w' := by
  have C1 := Lib.hid c1; clear c1
  have A1 := Lib.hid awake_any
  have B0 := boxes_new at_ (5 : Int) sym add base addr size mod off beh st mi w 24 26
  go_enter Try.func5, Try.ntmps5
  go_wp2_with fail
  refine (A1.out _).mono ?_
  rintro e w1 ⟨rfl, hb1⟩
  have B1 := B0.keep hb1
  have hf : w1.frozen? ⟨w.heap.size + 1, 7, none⟩ = false := (hb1.frozen (p := ⟨w.heap.size + 1, 7, none⟩) (by simp)).trans (by simp [go_sem])
  obtain ⟨h1, h2, h3, h4, h5, h6, h7, h8, h9, h10, h11, h12, hs1, hbel1⟩ := B1
  clear hb1 B0
  go_wp2_with fail
  refine (C1.out _).mono ?_
  rintro e w2 ⟨rfl, hb2⟩
  have hk : w2.cell? ⟨w.heap.size, 1, none⟩ = some (.int .i64 5) := (hb2.cell (p := ⟨w.heap.size, 1, none⟩) (by simp [World.setCell]; omega)).trans ((World.cell?_setCell_other _ _ _ _ (by simp)).trans h2)
  have hb3 : Below w.heap.size w w2 := (hbel1.setCell (p := ⟨w.heap.size + 1, 7, none⟩) (by simp) _).trans (hb2.mono (by simp [World.setCell]; omega))
  clear hb2 hbel1 h1 h2 h3 h4 h5 h6 h7 h8 h9 h10 h11 h12 hf
  go_wp2
  go_ret
  exact ⟨by simp, hb3⟩

set_option maxHeartbeats 1000000 in
theorem missing_2 (at_ sym add base addr size mod off beh : Int) (st mi : Bool) (w : World)
    (c1 : ∀ w, Calls Try.prog 10 #[.agg #[.int .i64 at_, .int .i64 2, .int .i64 sym, .int .i64 add], .agg #[.int .i64 base, .int .i64 addr, .int .i64 size, .int .i64 mod, .int .i64 off, .int .i64 beh, .bool st, .bool true]] w fun e w' => e = .returned (.tuple #[.int .i64 0, .int .i64 160]) ∧ Below w.heap.size w w') :
    Calls Try.prog 5 #[.agg #[.int .i64 at_, .int .i64 2, .int .i64 sym, .int .i64 add], .agg #[.int .i64 base, .int .i64 addr, .int .i64 size, .int .i64 mod, .int .i64 off, .int .i64 beh, .bool st, .bool mi]] w fun e w' => e = .returned (.bool true) ∧ Below w.heap.size w w' := by
  have C1 := Lib.hid c1; clear c1
  have A1 := Lib.hid awake_any
  have B0 := boxes_new at_ (2 : Int) sym add base addr size mod off beh st mi w 24 26
  go_enter Try.func5, Try.ntmps5
  go_wp2_with fail
  refine (A1.out _).mono ?_
  rintro e w1 ⟨rfl, hb1⟩
  have B1 := B0.keep hb1
  have hf : w1.frozen? ⟨w.heap.size + 1, 7, none⟩ = false := (hb1.frozen (p := ⟨w.heap.size + 1, 7, none⟩) (by simp)).trans (by simp [go_sem])
  obtain ⟨h1, h2, h3, h4, h5, h6, h7, h8, h9, h10, h11, h12, hs1, hbel1⟩ := B1
  clear hb1 B0
  go_wp2_with fail
  refine (C1.out _).mono ?_
  rintro e w2 ⟨rfl, hb2⟩
  have hk : w2.cell? ⟨w.heap.size, 1, none⟩ = some (.int .i64 2) := (hb2.cell (p := ⟨w.heap.size, 1, none⟩) (by simp [World.setCell]; omega)).trans ((World.cell?_setCell_other _ _ _ _ (by simp)).trans h2)
  have hb3 : Below w.heap.size w w2 := (hbel1.setCell (p := ⟨w.heap.size + 1, 7, none⟩) (by simp) _).trans (hb2.mono (by simp [World.setCell]; omega))
  clear hb2 hbel1 h1 h2 h3 h4 h5 h6 h7 h8 h9 h10 h11 h12 hf
  go_wp2
  go_ret
  exact ⟨by simp, hb3⟩

set_option maxHeartbeats 1000000 in
theorem missing_ok (at_ kind sym add base addr size mod off beh n : Int) (st mi : Bool) (w : World) (g0 : (kind == (0 : Int)) = false) (g6 : (kind == (6 : Int)) = false) (g5 : (kind == (5 : Int)) = false) (g2 : (kind == (2 : Int)) = false)
    (c1 : ∀ w, Calls Try.prog 10 #[.agg #[.int .i64 at_, .int .i64 kind, .int .i64 sym, .int .i64 add], .agg #[.int .i64 base, .int .i64 addr, .int .i64 size, .int .i64 mod, .int .i64 off, .int .i64 beh, .bool st, .bool true]] w fun e w' => e = .returned (.tuple #[.int .i64 n, .int .i64 0]) ∧ Below w.heap.size w w') :
    Calls Try.prog 5 #[.agg #[.int .i64 at_, .int .i64 kind, .int .i64 sym, .int .i64 add], .agg #[.int .i64 base, .int .i64 addr, .int .i64 size, .int .i64 mod, .int .i64 off, .int .i64 beh, .bool st, .bool mi]] w fun e w' => e = .returned (.bool true) ∧ Below w.heap.size w w' := by
  have C1 := Lib.hid c1; clear c1
  have A1 := Lib.hid awake_any
  have B0 := boxes_new at_ (kind : Int) sym add base addr size mod off beh st mi w 24 26
  go_enter Try.func5, Try.ntmps5
  go_wp2_with fail
  refine (A1.out _).mono ?_
  rintro e w1 ⟨rfl, hb1⟩
  have B1 := B0.keep hb1
  have hf : w1.frozen? ⟨w.heap.size + 1, 7, none⟩ = false := (hb1.frozen (p := ⟨w.heap.size + 1, 7, none⟩) (by simp)).trans (by simp [go_sem])
  obtain ⟨h1, h2, h3, h4, h5, h6, h7, h8, h9, h10, h11, h12, hs1, hbel1⟩ := B1
  clear hb1 B0
  go_wp2_with fail
  refine (C1.out _).mono ?_
  rintro e w2 ⟨rfl, hb2⟩
  have hk : w2.cell? ⟨w.heap.size, 1, none⟩ = some (.int .i64 kind) := (hb2.cell (p := ⟨w.heap.size, 1, none⟩) (by simp [World.setCell]; omega)).trans ((World.cell?_setCell_other _ _ _ _ (by simp)).trans h2)
  have hb3 : Below w.heap.size w w2 := (hbel1.setCell (p := ⟨w.heap.size + 1, 7, none⟩) (by simp) _).trans (hb2.mono (by simp [World.setCell]; omega))
  clear hb2 hbel1 h1 h2 h3 h4 h5 h6 h7 h8 h9 h10 h11 h12 hf
  go_wp2
  go_ret
  exact ⟨by simp, hb3⟩

set_option maxHeartbeats 1000000 in
theorem missing_no (at_ kind sym add base addr size mod off beh er : Int) (st mi : Bool) (w : World) (g0 : (kind == (0 : Int)) = false) (g6 : (kind == (6 : Int)) = false) (g5 : (kind == (5 : Int)) = false) (g2 : (kind == (2 : Int)) = false) (ge : (er == (0 : Int)) = false)
    (c1 : ∀ w, Calls Try.prog 10 #[.agg #[.int .i64 at_, .int .i64 kind, .int .i64 sym, .int .i64 add], .agg #[.int .i64 base, .int .i64 addr, .int .i64 size, .int .i64 mod, .int .i64 off, .int .i64 beh, .bool st, .bool true]] w fun e w' => e = .returned (.tuple #[.int .i64 0, .int .i64 er]) ∧ Below w.heap.size w w') :
    Calls Try.prog 5 #[.agg #[.int .i64 at_, .int .i64 kind, .int .i64 sym, .int .i64 add], .agg #[.int .i64 base, .int .i64 addr, .int .i64 size, .int .i64 mod, .int .i64 off, .int .i64 beh, .bool st, .bool mi]] w fun e w' => e = .returned (.bool true) ∧ Below w.heap.size w w' := by
  have C1 := Lib.hid c1; clear c1
  have A1 := Lib.hid awake_any
  have B0 := boxes_new at_ (kind : Int) sym add base addr size mod off beh st mi w 24 26
  go_enter Try.func5, Try.ntmps5
  go_wp2_with fail
  refine (A1.out _).mono ?_
  rintro e w1 ⟨rfl, hb1⟩
  have B1 := B0.keep hb1
  have hf : w1.frozen? ⟨w.heap.size + 1, 7, none⟩ = false := (hb1.frozen (p := ⟨w.heap.size + 1, 7, none⟩) (by simp)).trans (by simp [go_sem])
  obtain ⟨h1, h2, h3, h4, h5, h6, h7, h8, h9, h10, h11, h12, hs1, hbel1⟩ := B1
  clear hb1 B0
  go_wp2_with fail
  refine (C1.out _).mono ?_
  rintro e w2 ⟨rfl, hb2⟩
  have hk : w2.cell? ⟨w.heap.size, 1, none⟩ = some (.int .i64 kind) := (hb2.cell (p := ⟨w.heap.size, 1, none⟩) (by simp [World.setCell]; omega)).trans ((World.cell?_setCell_other _ _ _ _ (by simp)).trans h2)
  have hb3 : Below w.heap.size w w2 := (hbel1.setCell (p := ⟨w.heap.size + 1, 7, none⟩) (by simp) _).trans (hb2.mono (by simp [World.setCell]; omega))
  clear hb2 hbel1 h1 h2 h3 h4 h5 h6 h7 h8 h9 h10 h11 h12 hf
  go_wp2
  go_ret
  exact ⟨by simp, hb3⟩

theorem missing_walk (at_ kind sym add base addr size mod off beh : Int) (st mi : Bool) (w : World) :
    Calls Try.prog 5 #[.agg #[.int .i64 at_, .int .i64 kind, .int .i64 sym, .int .i64 add], .agg #[.int .i64 base, .int .i64 addr, .int .i64 size, .int .i64 mod, .int .i64 off, .int .i64 beh, .bool st, .bool mi]] w fun e w' => e = .returned (.bool true) ∧ Below w.heap.size w w' := by
  have c1 := fun w => rword_any at_ kind sym add base addr size mod off beh st true w
  by_cases k0 : kind = 0
  · subst k0; exact missing_0 at_ sym add base addr size mod off beh st mi w c1
  by_cases k6 : kind = 6
  · subst k6; exact missing_6 at_ sym add base addr size mod off beh st mi w c1
  by_cases k5 : kind = 5
  · subst k5; exact missing_5 at_ sym add base addr size mod off beh st mi w c1
  by_cases k2 : kind = 2
  · subst k2; exact missing_2 at_ sym add base addr size mod off beh st mi w c1
  have hx : (relWord at_ kind add base addr size mod off beh st true).2 = 0 ∨ ((relWord at_ kind add base addr size mod off beh st true).1 = 0 ∧ ((relWord at_ kind add base addr size mod off beh st true).2 == 0) = false) := by
    unfold relWord
    repeat' split
    all_goals simp
  rcases hx with hx | ⟨hx, hy⟩
  · exact missing_ok at_ kind sym add base addr size mod off beh _ st mi w (by simp [k0]) (by simp [k6]) (by simp [k5]) (by simp [k2]) (fun w => (c1 w).mono fun e w' h => by rw [hx] at h; exact h)
  · exact missing_no at_ kind sym add base addr size mod off beh _ st mi w (by simp [k0]) (by simp [k6]) (by simp [k5]) (by simp [k2]) hy (fun w => (c1 w).mono fun e w' h => by rw [hx] at h; exact h)


set_option maxHeartbeats 1000000 in
theorem moves_err (at_ kind sym add base addr size mod off beh er by_ : Int) (st : Bool) (mi : Bool) (w : World) (he : (er == (0 : Int)) = false) (he2 : (er != (0 : Int)) = true)
    (c1 : ∀ w, Calls Try.prog 10 #[.agg #[.int .i64 at_, .int .i64 kind, .int .i64 sym, .int .i64 add], .agg #[.int .i64 base, .int .i64 addr, .int .i64 size, .int .i64 mod, .int .i64 off, .int .i64 beh, .bool st, .bool mi]] w fun e w' => e = .returned (.tuple #[.int .i64 0, .int .i64 er]) ∧ Below w.heap.size w w')
    (c2 : ∀ w, Calls Try.prog 10 #[.agg #[.int .i64 at_, .int .i64 kind, .int .i64 sym, .int .i64 add], .agg #[.int .i64 (wrap64 (base + by_)), .int .i64 (wrap64 (addr + by_)), .int .i64 size, .int .i64 mod, .int .i64 off, .int .i64 beh, .bool st, .bool mi]] w fun e w' => e = .returned (.tuple #[.int .i64 0, .int .i64 er]) ∧ Below w.heap.size w w') :
    Calls Try.prog 4 #[.agg #[.int .i64 at_, .int .i64 kind, .int .i64 sym, .int .i64 add], .agg #[.int .i64 base, .int .i64 addr, .int .i64 size, .int .i64 mod, .int .i64 off, .int .i64 beh, .bool st, .bool mi], .int .i64 by_] w fun e w' => e = .returned (.bool true) ∧ Below w.heap.size w w' := by
  have C1 := Lib.hid c1; clear c1
  have C2 := Lib.hid c2; clear c2
  have A1 := Lib.hid awake_any
  have B0 := boxes_new at_ (kind : Int) sym add base addr size mod off beh st mi w 24 26
  go_enter Try.func4, Try.ntmps4
  go_wp2_with fail
  refine (A1.out _).mono ?_
  rintro e w1 ⟨rfl, hb1⟩
  have B1 := B0.keep hb1
  have B1' := B1
  obtain ⟨h1, h2, h3, h4, h5, h6, h7, h8, h9, h10, h11, h12, hs1, hbel1⟩ := B1'
  have hl0 : w.heap.size < w1.heap.size := by omega
  have hl1 : w.heap.size + 1 < w1.heap.size := by omega
  clear hb1 B0
  go_wp2_with fail
  refine (C1.out _).mono ?_
  rintro e w2 ⟨rfl, hb2⟩
  have B2 : Boxes at_ (kind : Int) sym add base addr size mod off beh st mi w w2 := (B1.keep ((Below.refl _ _).alloc (Nat.le_refl _) _)).keep hb2
  have cg : ∀ o, w2.cell? ⟨w1.heap.size, o, none⟩ = (#[.int .i64 (wrap64 (base + by_)), .int .i64 (wrap64 (addr + by_)), .int .i64 size, .int .i64 mod, .int .i64 off, .int .i64 beh, .bool st, .bool mi] : Array Value)[o]? :=
    fun o => (hb2.cell (p := ⟨w1.heap.size, o, none⟩) (by simp)).trans (World.cell?_alloc_at _ _ _ _ rfl)
  have g0 := cg 0; have g1 := cg 1; have g2 := cg 2; have g3 := cg 3; have g4 := cg 4; have g5 := cg 5; have g6 := cg 6; have g7 := cg 7
  have B2' := B2
  obtain ⟨i1, i2, i3, i4, i5, i6, i7, i8, i9, i10, i11, i12, hs2, hbel2⟩ := B2'
  clear cg hb2 h1 h2 h3 h4 h5 h6 h7 h8 h9 h10 h11 h12
  go_wp2_with fail
  refine (C2.out _).mono ?_
  rintro e w3 ⟨rfl, hb3⟩
  have B3 := B2.keep hb3
  clear hb3 B1 B2 g0 g1 g2 g3 g4 g5 g6 g7 i1 i2 i3 i4 i5 i6 i7 i8 i9 i10 i11 i12
  obtain ⟨h1, h2, h3, h4, h5, h6, h7, h8, h9, h10, h11, h12, hs3, hbel3⟩ := B3
  go_wp2
  all_goals (go_ret; exact ⟨by simp, hbel3⟩)

set_option maxHeartbeats 1000000 in
theorem moves_base (at_ sym add base addr size mod off beh n1 n2 by_ : Int) (st : Bool) (mi : Bool) (w : World) (hd : (wrap64 (n2 - n1) == by_) = true)
    (c1 : ∀ w, Calls Try.prog 10 #[.agg #[.int .i64 at_, .int .i64 1, .int .i64 sym, .int .i64 add], .agg #[.int .i64 base, .int .i64 addr, .int .i64 size, .int .i64 mod, .int .i64 off, .int .i64 beh, .bool st, .bool mi]] w fun e w' => e = .returned (.tuple #[.int .i64 n1, .int .i64 0]) ∧ Below w.heap.size w w')
    (c2 : ∀ w, Calls Try.prog 10 #[.agg #[.int .i64 at_, .int .i64 1, .int .i64 sym, .int .i64 add], .agg #[.int .i64 (wrap64 (base + by_)), .int .i64 (wrap64 (addr + by_)), .int .i64 size, .int .i64 mod, .int .i64 off, .int .i64 beh, .bool st, .bool mi]] w fun e w' => e = .returned (.tuple #[.int .i64 n2, .int .i64 0]) ∧ Below w.heap.size w w') :
    Calls Try.prog 4 #[.agg #[.int .i64 at_, .int .i64 1, .int .i64 sym, .int .i64 add], .agg #[.int .i64 base, .int .i64 addr, .int .i64 size, .int .i64 mod, .int .i64 off, .int .i64 beh, .bool st, .bool mi], .int .i64 by_] w fun e w' => e = .returned (.bool true) ∧ Below w.heap.size w w' := by
  have C1 := Lib.hid c1; clear c1
  have C2 := Lib.hid c2; clear c2
  have A1 := Lib.hid awake_any
  have B0 := boxes_new at_ (1 : Int) sym add base addr size mod off beh st mi w 24 26
  go_enter Try.func4, Try.ntmps4
  go_wp2_with fail
  refine (A1.out _).mono ?_
  rintro e w1 ⟨rfl, hb1⟩
  have B1 := B0.keep hb1
  have B1' := B1
  obtain ⟨h1, h2, h3, h4, h5, h6, h7, h8, h9, h10, h11, h12, hs1, hbel1⟩ := B1'
  have hl0 : w.heap.size < w1.heap.size := by omega
  have hl1 : w.heap.size + 1 < w1.heap.size := by omega
  clear hb1 B0
  go_wp2_with fail
  refine (C1.out _).mono ?_
  rintro e w2 ⟨rfl, hb2⟩
  have B2 : Boxes at_ (1 : Int) sym add base addr size mod off beh st mi w w2 := (B1.keep ((Below.refl _ _).alloc (Nat.le_refl _) _)).keep hb2
  have cg : ∀ o, w2.cell? ⟨w1.heap.size, o, none⟩ = (#[.int .i64 (wrap64 (base + by_)), .int .i64 (wrap64 (addr + by_)), .int .i64 size, .int .i64 mod, .int .i64 off, .int .i64 beh, .bool st, .bool mi] : Array Value)[o]? :=
    fun o => (hb2.cell (p := ⟨w1.heap.size, o, none⟩) (by simp)).trans (World.cell?_alloc_at _ _ _ _ rfl)
  have g0 := cg 0; have g1 := cg 1; have g2 := cg 2; have g3 := cg 3; have g4 := cg 4; have g5 := cg 5; have g6 := cg 6; have g7 := cg 7
  have B2' := B2
  obtain ⟨i1, i2, i3, i4, i5, i6, i7, i8, i9, i10, i11, i12, hs2, hbel2⟩ := B2'
  clear cg hb2 h1 h2 h3 h4 h5 h6 h7 h8 h9 h10 h11 h12
  go_wp2_with fail
  refine (C2.out _).mono ?_
  rintro e w3 ⟨rfl, hb3⟩
  have B3 := B2.keep hb3
  clear hb3 B1 B2 g0 g1 g2 g3 g4 g5 g6 g7 i1 i2 i3 i4 i5 i6 i7 i8 i9 i10 i11 i12
  obtain ⟨h1, h2, h3, h4, h5, h6, h7, h8, h9, h10, h11, h12, hs3, hbel3⟩ := B3
  go_wp2
  all_goals (go_ret; exact ⟨by simp, hbel3⟩)

set_option maxHeartbeats 1000000 in
theorem moves_abs_miss (at_ sym add base addr size mod off beh by_ : Int) (st : Bool) (w : World)
    (c1 : ∀ w, Calls Try.prog 10 #[.agg #[.int .i64 at_, .int .i64 0, .int .i64 sym, .int .i64 add], .agg #[.int .i64 base, .int .i64 addr, .int .i64 size, .int .i64 mod, .int .i64 off, .int .i64 beh, .bool st, .bool true]] w fun e w' => e = .returned (.tuple #[.int .i64 0, .int .i64 0]) ∧ Below w.heap.size w w')
    (c2 : ∀ w, Calls Try.prog 10 #[.agg #[.int .i64 at_, .int .i64 0, .int .i64 sym, .int .i64 add], .agg #[.int .i64 (wrap64 (base + by_)), .int .i64 (wrap64 (addr + by_)), .int .i64 size, .int .i64 mod, .int .i64 off, .int .i64 beh, .bool st, .bool true]] w fun e w' => e = .returned (.tuple #[.int .i64 0, .int .i64 0]) ∧ Below w.heap.size w w') :
    Calls Try.prog 4 #[.agg #[.int .i64 at_, .int .i64 0, .int .i64 sym, .int .i64 add], .agg #[.int .i64 base, .int .i64 addr, .int .i64 size, .int .i64 mod, .int .i64 off, .int .i64 beh, .bool st, .bool true], .int .i64 by_] w fun e w' => e = .returned (.bool true) ∧ Below w.heap.size w w' := by
  have C1 := Lib.hid c1; clear c1
  have C2 := Lib.hid c2; clear c2
  have A1 := Lib.hid awake_any
  have B0 := boxes_new at_ (0 : Int) sym add base addr size mod off beh st true w 24 26
  go_enter Try.func4, Try.ntmps4
  go_wp2_with fail
  refine (A1.out _).mono ?_
  rintro e w1 ⟨rfl, hb1⟩
  have B1 := B0.keep hb1
  have B1' := B1
  obtain ⟨h1, h2, h3, h4, h5, h6, h7, h8, h9, h10, h11, h12, hs1, hbel1⟩ := B1'
  have hl0 : w.heap.size < w1.heap.size := by omega
  have hl1 : w.heap.size + 1 < w1.heap.size := by omega
  clear hb1 B0
  go_wp2_with fail
  refine (C1.out _).mono ?_
  rintro e w2 ⟨rfl, hb2⟩
  have B2 : Boxes at_ (0 : Int) sym add base addr size mod off beh st true w w2 := (B1.keep ((Below.refl _ _).alloc (Nat.le_refl _) _)).keep hb2
  have cg : ∀ o, w2.cell? ⟨w1.heap.size, o, none⟩ = (#[.int .i64 (wrap64 (base + by_)), .int .i64 (wrap64 (addr + by_)), .int .i64 size, .int .i64 mod, .int .i64 off, .int .i64 beh, .bool st, .bool true] : Array Value)[o]? :=
    fun o => (hb2.cell (p := ⟨w1.heap.size, o, none⟩) (by simp)).trans (World.cell?_alloc_at _ _ _ _ rfl)
  have g0 := cg 0; have g1 := cg 1; have g2 := cg 2; have g3 := cg 3; have g4 := cg 4; have g5 := cg 5; have g6 := cg 6; have g7 := cg 7
  have B2' := B2
  obtain ⟨i1, i2, i3, i4, i5, i6, i7, i8, i9, i10, i11, i12, hs2, hbel2⟩ := B2'
  clear cg hb2 h1 h2 h3 h4 h5 h6 h7 h8 h9 h10 h11 h12
  go_wp2_with fail
  refine (C2.out _).mono ?_
  rintro e w3 ⟨rfl, hb3⟩
  have B3 := B2.keep hb3
  clear hb3 B1 B2 g0 g1 g2 g3 g4 g5 g6 g7 i1 i2 i3 i4 i5 i6 i7 i8 i9 i10 i11 i12
  obtain ⟨h1, h2, h3, h4, h5, h6, h7, h8, h9, h10, h11, h12, hs3, hbel3⟩ := B3
  go_wp2
  all_goals (go_ret; exact ⟨by simp, hbel3⟩)

set_option maxHeartbeats 1000000 in
theorem moves_abs (at_ sym add base addr size mod off beh n1 n2 by_ : Int) (st : Bool) (w : World) (hd : (wrap64 (n2 - n1) == by_) = true)
    (c1 : ∀ w, Calls Try.prog 10 #[.agg #[.int .i64 at_, .int .i64 0, .int .i64 sym, .int .i64 add], .agg #[.int .i64 base, .int .i64 addr, .int .i64 size, .int .i64 mod, .int .i64 off, .int .i64 beh, .bool st, .bool false]] w fun e w' => e = .returned (.tuple #[.int .i64 n1, .int .i64 0]) ∧ Below w.heap.size w w')
    (c2 : ∀ w, Calls Try.prog 10 #[.agg #[.int .i64 at_, .int .i64 0, .int .i64 sym, .int .i64 add], .agg #[.int .i64 (wrap64 (base + by_)), .int .i64 (wrap64 (addr + by_)), .int .i64 size, .int .i64 mod, .int .i64 off, .int .i64 beh, .bool st, .bool false]] w fun e w' => e = .returned (.tuple #[.int .i64 n2, .int .i64 0]) ∧ Below w.heap.size w w') :
    Calls Try.prog 4 #[.agg #[.int .i64 at_, .int .i64 0, .int .i64 sym, .int .i64 add], .agg #[.int .i64 base, .int .i64 addr, .int .i64 size, .int .i64 mod, .int .i64 off, .int .i64 beh, .bool st, .bool false], .int .i64 by_] w fun e w' => e = .returned (.bool true) ∧ Below w.heap.size w w' := by
  have C1 := Lib.hid c1; clear c1
  have C2 := Lib.hid c2; clear c2
  have A1 := Lib.hid awake_any
  have B0 := boxes_new at_ (0 : Int) sym add base addr size mod off beh st false w 24 26
  go_enter Try.func4, Try.ntmps4
  go_wp2_with fail
  refine (A1.out _).mono ?_
  rintro e w1 ⟨rfl, hb1⟩
  have B1 := B0.keep hb1
  have B1' := B1
  obtain ⟨h1, h2, h3, h4, h5, h6, h7, h8, h9, h10, h11, h12, hs1, hbel1⟩ := B1'
  have hl0 : w.heap.size < w1.heap.size := by omega
  have hl1 : w.heap.size + 1 < w1.heap.size := by omega
  clear hb1 B0
  go_wp2_with fail
  refine (C1.out _).mono ?_
  rintro e w2 ⟨rfl, hb2⟩
  have B2 : Boxes at_ (0 : Int) sym add base addr size mod off beh st false w w2 := (B1.keep ((Below.refl _ _).alloc (Nat.le_refl _) _)).keep hb2
  have cg : ∀ o, w2.cell? ⟨w1.heap.size, o, none⟩ = (#[.int .i64 (wrap64 (base + by_)), .int .i64 (wrap64 (addr + by_)), .int .i64 size, .int .i64 mod, .int .i64 off, .int .i64 beh, .bool st, .bool false] : Array Value)[o]? :=
    fun o => (hb2.cell (p := ⟨w1.heap.size, o, none⟩) (by simp)).trans (World.cell?_alloc_at _ _ _ _ rfl)
  have g0 := cg 0; have g1 := cg 1; have g2 := cg 2; have g3 := cg 3; have g4 := cg 4; have g5 := cg 5; have g6 := cg 6; have g7 := cg 7
  have B2' := B2
  obtain ⟨i1, i2, i3, i4, i5, i6, i7, i8, i9, i10, i11, i12, hs2, hbel2⟩ := B2'
  clear cg hb2 h1 h2 h3 h4 h5 h6 h7 h8 h9 h10 h11 h12
  go_wp2_with fail
  refine (C2.out _).mono ?_
  rintro e w3 ⟨rfl, hb3⟩
  have B3 := B2.keep hb3
  clear hb3 B1 B2 g0 g1 g2 g3 g4 g5 g6 g7 i1 i2 i3 i4 i5 i6 i7 i8 i9 i10 i11 i12
  obtain ⟨h1, h2, h3, h4, h5, h6, h7, h8, h9, h10, h11, h12, hs3, hbel3⟩ := B3
  go_wp2
  all_goals (go_ret; exact ⟨by simp, hbel3⟩)

set_option maxHeartbeats 1000000 in
theorem moves_else (at_ kind sym add base addr size mod off beh n1 by_ : Int) (st : Bool) (mi : Bool) (w : World) (k0 : (kind == (0 : Int)) = false) (k1 : (kind == (1 : Int)) = false)
    (c1 : ∀ w, Calls Try.prog 10 #[.agg #[.int .i64 at_, .int .i64 kind, .int .i64 sym, .int .i64 add], .agg #[.int .i64 base, .int .i64 addr, .int .i64 size, .int .i64 mod, .int .i64 off, .int .i64 beh, .bool st, .bool mi]] w fun e w' => e = .returned (.tuple #[.int .i64 n1, .int .i64 0]) ∧ Below w.heap.size w w')
    (c2 : ∀ w, Calls Try.prog 10 #[.agg #[.int .i64 at_, .int .i64 kind, .int .i64 sym, .int .i64 add], .agg #[.int .i64 (wrap64 (base + by_)), .int .i64 (wrap64 (addr + by_)), .int .i64 size, .int .i64 mod, .int .i64 off, .int .i64 beh, .bool st, .bool mi]] w fun e w' => e = .returned (.tuple #[.int .i64 n1, .int .i64 0]) ∧ Below w.heap.size w w') :
    Calls Try.prog 4 #[.agg #[.int .i64 at_, .int .i64 kind, .int .i64 sym, .int .i64 add], .agg #[.int .i64 base, .int .i64 addr, .int .i64 size, .int .i64 mod, .int .i64 off, .int .i64 beh, .bool st, .bool mi], .int .i64 by_] w fun e w' => e = .returned (.bool true) ∧ Below w.heap.size w w' := by
  have C1 := Lib.hid c1; clear c1
  have C2 := Lib.hid c2; clear c2
  have A1 := Lib.hid awake_any
  have B0 := boxes_new at_ (kind : Int) sym add base addr size mod off beh st mi w 24 26
  go_enter Try.func4, Try.ntmps4
  go_wp2_with fail
  refine (A1.out _).mono ?_
  rintro e w1 ⟨rfl, hb1⟩
  have B1 := B0.keep hb1
  have B1' := B1
  obtain ⟨h1, h2, h3, h4, h5, h6, h7, h8, h9, h10, h11, h12, hs1, hbel1⟩ := B1'
  have hl0 : w.heap.size < w1.heap.size := by omega
  have hl1 : w.heap.size + 1 < w1.heap.size := by omega
  clear hb1 B0
  go_wp2_with fail
  refine (C1.out _).mono ?_
  rintro e w2 ⟨rfl, hb2⟩
  have B2 : Boxes at_ (kind : Int) sym add base addr size mod off beh st mi w w2 := (B1.keep ((Below.refl _ _).alloc (Nat.le_refl _) _)).keep hb2
  have cg : ∀ o, w2.cell? ⟨w1.heap.size, o, none⟩ = (#[.int .i64 (wrap64 (base + by_)), .int .i64 (wrap64 (addr + by_)), .int .i64 size, .int .i64 mod, .int .i64 off, .int .i64 beh, .bool st, .bool mi] : Array Value)[o]? :=
    fun o => (hb2.cell (p := ⟨w1.heap.size, o, none⟩) (by simp)).trans (World.cell?_alloc_at _ _ _ _ rfl)
  have g0 := cg 0; have g1 := cg 1; have g2 := cg 2; have g3 := cg 3; have g4 := cg 4; have g5 := cg 5; have g6 := cg 6; have g7 := cg 7
  have B2' := B2
  obtain ⟨i1, i2, i3, i4, i5, i6, i7, i8, i9, i10, i11, i12, hs2, hbel2⟩ := B2'
  clear cg hb2 h1 h2 h3 h4 h5 h6 h7 h8 h9 h10 h11 h12
  go_wp2_with fail
  refine (C2.out _).mono ?_
  rintro e w3 ⟨rfl, hb3⟩
  have B3 := B2.keep hb3
  clear hb3 B1 B2 g0 g1 g2 g3 g4 g5 g6 g7 i1 i2 i3 i4 i5 i6 i7 i8 i9 i10 i11 i12
  obtain ⟨h1, h2, h3, h4, h5, h6, h7, h8, h9, h10, h11, h12, hs3, hbel3⟩ := B3
  go_wp2
  all_goals (go_ret; exact ⟨by simp, hbel3⟩)

theorem moves_walk (at_ kind sym add base addr size mod off beh by_ : Int) (st mi : Bool) (hby : (Lit.int .i64 by_).wf = true) (w : World) :
    Calls Try.prog 4 #[.agg #[.int .i64 at_, .int .i64 kind, .int .i64 sym, .int .i64 add], .agg #[.int .i64 base, .int .i64 addr, .int .i64 size, .int .i64 mod, .int .i64 off, .int .i64 beh, .bool st, .bool mi], .int .i64 by_] w fun e w' => e = .returned (.bool true) ∧ Below w.heap.size w w' := by
  have c1 := fun w => rword_any at_ kind sym add base addr size mod off beh st mi w
  have c2 := fun w => rword_any at_ kind sym add (wrap64 (base + by_)) (wrap64 (addr + by_)) size mod off beh st mi w
  obtain ⟨b1, b2⟩ := bounds_i64 hby
  have e1 : (wrap64 (wrap64 (wrap64 (base + by_) + add) - wrap64 (base + add)) == by_) = true := by simp; unfold wrap64; omega
  have e2 : (wrap64 (wrap64 (wrap64 (addr + by_) + add) - wrap64 (addr + add)) == by_) = true := by simp; unfold wrap64; omega
  have e3 : wrap64 (wrap64 (wrap64 (addr + by_) + add) - wrap64 (wrap64 (base + by_) + at_)) = wrap64 (wrap64 (addr + add) - wrap64 (base + at_)) := by unfold wrap64; omega
  by_cases k1 : kind = 1
  · subst k1; exact moves_base at_ sym add base addr size mod off beh _ _ by_ st mi w e1 c1 c2
  by_cases k0 : kind = 0
  · subst k0
    cases mi
    · exact moves_abs at_ sym add base addr size mod off beh _ _ by_ st w e2 c1 c2
    · exact moves_abs_miss at_ sym add base addr size mod off beh by_ st w c1 c2
  have hx : relWord at_ kind add (wrap64 (base + by_)) (wrap64 (addr + by_)) size mod off beh st mi = relWord at_ kind add base addr size mod off beh st mi := by
    simp only [relWord, if_neg k1, if_neg k0, e3]
  rw [hx] at c2
  by_cases he : (relWord at_ kind add base addr size mod off beh st mi).2 = 0
  · rw [he] at c1 c2
    exact moves_else at_ kind sym add base addr size mod off beh _ by_ st mi w (by simp [k0]) (by simp [k1]) c1 c2
  · have hz : (relWord at_ kind add base addr size mod off beh st mi).1 = 0 := by
      revert he
      unfold relWord
      repeat' split
      all_goals simp
    rw [hz] at c1 c2
    exact moves_err at_ kind sym add base addr size mod off beh _ by_ st mi w (by simp [he]) (by simp [he]) c1 c2

end Go.Proofs.Ytpononkgeeahdaa
