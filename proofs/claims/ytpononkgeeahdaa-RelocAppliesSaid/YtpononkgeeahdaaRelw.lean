/-
  What reloc.Word, clevisref16.Word, clevislaw16.fact and clevislaw16.awake compute (walks), and the plain law between the two.
  Conditions: none. (My own text.)
-/
import Derived.Test.YtpononkgeeahdaaFrame
import Derived.Deep.QuietTactic
import Derived.BigQuiet
import Derived.WalkSpells
import Derived.Outline
import Derived.Lib.Hide
namespace Go.Proofs.Ytpononkgeeahdaa
open Go.RowKit
set_option linter.unusedVariables false
set_option linter.unusedSimpArgs false

/-- What a relocation puts into its word, and its error: the program's. -/
def relWord (at_ kind add base addr size mod off beh : Int) (st mi : Bool) : Int × Int :=
  if kind = 1 then (wrap64 (base + add), 0) else
  if kind = 0 then (if mi then 0 else wrap64 (addr + add), 0) else
  if kind = 6 then (if mi then 0 else wrap64 (wrap64 (addr + add) - wrap64 (base + at_)), 0) else
  if kind = 7 then (size, 0) else
  if kind = 3 then (mod, 0) else
  if kind = 4 then (wrap64 (off + add), 0) else
  if kind = 5 then (if mi then (0, 0) else if st then (wrap64 (wrap64 (beh + off) + add), 0) else (0, 161)) else
  (0, 160)

/-- .. the document's. -/
def relRef (at_ kind add base addr size mod off beh : Int) (st mi : Bool) : Int × Int :=
  if kind = 1 then (wrap64 (base + add), 0) else
  if kind = 0 then (if mi then 0 else wrap64 (addr + add), 0) else
  if kind = 6 then (if mi then 0 else wrap64 (wrap64 (wrap64 (addr + add) - base) - at_), 0) else
  if kind = 7 then (size, 0) else
  if kind = 3 then (mod, 0) else
  if kind = 4 then (wrap64 (off + add), 0) else
  if kind = 5 then (if mi then (0, 0) else if st then (wrap64 (wrap64 (beh + off) + add), 0) else (0, 161)) else
  (0, 160)

theorem rel_same (at_ kind add base addr size mod off beh : Int) (st mi : Bool) : relWord at_ kind add base addr size mod off beh st mi = relRef at_ kind add base addr size mod off beh st mi := by
  unfold relWord relRef
  have h : wrap64 (wrap64 (addr + add) - wrap64 (base + at_)) = wrap64 (wrap64 (wrap64 (addr + add) - base) - at_) := by unfold wrap64; omega
  rw [h]

set_option maxHeartbeats 1000000 in
theorem rword_any (at_ kind sym add base addr size mod off beh : Int) (st mi : Bool) (w : World) :
    Calls Try.prog 10 #[.agg #[.int .i64 at_, .int .i64 kind, .int .i64 sym, .int .i64 add], .agg #[.int .i64 base, .int .i64 addr, .int .i64 size, .int .i64 mod, .int .i64 off, .int .i64 beh, .bool st, .bool mi]] w fun e w' =>
      e = .returned (.tuple #[.int .i64 (relWord at_ kind add base addr size mod off beh st mi).1, .int .i64 (relWord at_ kind add base addr size mod off beh st mi).2]) ∧ Below w.heap.size w w' := by
  by_cases k1 : kind = 1
  · subst k1
    go_enter Try.func10, Try.ntmps10
    go_wp2
    all_goals (go_ret2; exact ⟨by simp [relWord], ((Below.refl _ _).alloc (Nat.le_refl _) _).alloc (by simp) _⟩)
  by_cases k0 : kind = 0
  · subst k0
    cases mi
    ·
      go_enter Try.func10, Try.ntmps10
      go_wp2
      all_goals (go_ret2; exact ⟨by simp [relWord], ((Below.refl _ _).alloc (Nat.le_refl _) _).alloc (by simp) _⟩)
    ·
      go_enter Try.func10, Try.ntmps10
      go_wp2
      all_goals (go_ret2; exact ⟨by simp [relWord], ((Below.refl _ _).alloc (Nat.le_refl _) _).alloc (by simp) _⟩)
  by_cases k6 : kind = 6
  · subst k6
    cases mi
    ·
      go_enter Try.func10, Try.ntmps10
      go_wp2
      all_goals (go_ret2; exact ⟨by simp [relWord], ((Below.refl _ _).alloc (Nat.le_refl _) _).alloc (by simp) _⟩)
    ·
      go_enter Try.func10, Try.ntmps10
      go_wp2
      all_goals (go_ret2; exact ⟨by simp [relWord], ((Below.refl _ _).alloc (Nat.le_refl _) _).alloc (by simp) _⟩)
  by_cases k7 : kind = 7
  · subst k7
    go_enter Try.func10, Try.ntmps10
    go_wp2
    all_goals (go_ret2; exact ⟨by simp [relWord], ((Below.refl _ _).alloc (Nat.le_refl _) _).alloc (by simp) _⟩)
  by_cases k3 : kind = 3
  · subst k3
    go_enter Try.func10, Try.ntmps10
    go_wp2
    all_goals (go_ret2; exact ⟨by simp [relWord], ((Below.refl _ _).alloc (Nat.le_refl _) _).alloc (by simp) _⟩)
  by_cases k4 : kind = 4
  · subst k4
    go_enter Try.func10, Try.ntmps10
    go_wp2
    all_goals (go_ret2; exact ⟨by simp [relWord], ((Below.refl _ _).alloc (Nat.le_refl _) _).alloc (by simp) _⟩)
  by_cases k5 : kind = 5
  · subst k5
    cases mi <;> cases st
    ·
      go_enter Try.func10, Try.ntmps10
      go_wp2
      all_goals (go_ret2; exact ⟨by simp [relWord], ((Below.refl _ _).alloc (Nat.le_refl _) _).alloc (by simp) _⟩)
    ·
      go_enter Try.func10, Try.ntmps10
      go_wp2
      all_goals (go_ret2; exact ⟨by simp [relWord], ((Below.refl _ _).alloc (Nat.le_refl _) _).alloc (by simp) _⟩)
    ·
      go_enter Try.func10, Try.ntmps10
      go_wp2
      all_goals (go_ret2; exact ⟨by simp [relWord], ((Below.refl _ _).alloc (Nat.le_refl _) _).alloc (by simp) _⟩)
    ·
      go_enter Try.func10, Try.ntmps10
      go_wp2
      all_goals (go_ret2; exact ⟨by simp [relWord], ((Below.refl _ _).alloc (Nat.le_refl _) _).alloc (by simp) _⟩)
  have g1 : (kind == (1 : Int)) = false := by simp [k1]
  have g0 : (kind == (0 : Int)) = false := by simp [k0]
  have g6 : (kind == (6 : Int)) = false := by simp [k6]
  have g7 : (kind == (7 : Int)) = false := by simp [k7]
  have g3 : (kind == (3 : Int)) = false := by simp [k3]
  have g4 : (kind == (4 : Int)) = false := by simp [k4]
  have g5 : (kind == (5 : Int)) = false := by simp [k5]
  go_enter Try.func10, Try.ntmps10
  go_wp2
  all_goals (go_ret2; exact ⟨by simp [relWord, k1, k0, k6, k7, k3, k4, k5], ((Below.refl _ _).alloc (Nat.le_refl _) _).alloc (by simp) _⟩)

set_option maxHeartbeats 1000000 in
theorem refWord_any (at_ kind sym add base addr size mod off beh : Int) (st mi : Bool) (w : World) :
    Calls Try.prog 11 #[.agg #[.int .i64 at_, .int .i64 kind, .int .i64 sym, .int .i64 add], .agg #[.int .i64 base, .int .i64 addr, .int .i64 size, .int .i64 mod, .int .i64 off, .int .i64 beh, .bool st, .bool mi]] w fun e w' =>
      e = .returned (.tuple #[.int .i64 (relRef at_ kind add base addr size mod off beh st mi).1, .int .i64 (relRef at_ kind add base addr size mod off beh st mi).2]) ∧ Below w.heap.size w w' := by
  by_cases k1 : kind = 1
  · subst k1
    go_enter Try.func11, Try.ntmps11
    go_wp2
    all_goals (go_ret2; exact ⟨by simp [relRef], ((Below.refl _ _).alloc (Nat.le_refl _) _).alloc (by simp) _⟩)
  by_cases k0 : kind = 0
  · subst k0
    cases mi
    ·
      go_enter Try.func11, Try.ntmps11
      go_wp2
      all_goals (go_ret2; exact ⟨by simp [relRef], ((Below.refl _ _).alloc (Nat.le_refl _) _).alloc (by simp) _⟩)
    ·
      go_enter Try.func11, Try.ntmps11
      go_wp2
      all_goals (go_ret2; exact ⟨by simp [relRef], ((Below.refl _ _).alloc (Nat.le_refl _) _).alloc (by simp) _⟩)
  by_cases k6 : kind = 6
  · subst k6
    cases mi
    ·
      go_enter Try.func11, Try.ntmps11
      go_wp2
      all_goals (go_ret2; exact ⟨by simp [relRef], ((Below.refl _ _).alloc (Nat.le_refl _) _).alloc (by simp) _⟩)
    ·
      go_enter Try.func11, Try.ntmps11
      go_wp2
      all_goals (go_ret2; exact ⟨by simp [relRef], ((Below.refl _ _).alloc (Nat.le_refl _) _).alloc (by simp) _⟩)
  by_cases k7 : kind = 7
  · subst k7
    go_enter Try.func11, Try.ntmps11
    go_wp2
    all_goals (go_ret2; exact ⟨by simp [relRef], ((Below.refl _ _).alloc (Nat.le_refl _) _).alloc (by simp) _⟩)
  by_cases k3 : kind = 3
  · subst k3
    go_enter Try.func11, Try.ntmps11
    go_wp2
    all_goals (go_ret2; exact ⟨by simp [relRef], ((Below.refl _ _).alloc (Nat.le_refl _) _).alloc (by simp) _⟩)
  by_cases k4 : kind = 4
  · subst k4
    go_enter Try.func11, Try.ntmps11
    go_wp2
    all_goals (go_ret2; exact ⟨by simp [relRef], ((Below.refl _ _).alloc (Nat.le_refl _) _).alloc (by simp) _⟩)
  by_cases k5 : kind = 5
  · subst k5
    cases mi <;> cases st
    ·
      go_enter Try.func11, Try.ntmps11
      go_wp2
      all_goals (go_ret2; exact ⟨by simp [relRef], ((Below.refl _ _).alloc (Nat.le_refl _) _).alloc (by simp) _⟩)
    ·
      go_enter Try.func11, Try.ntmps11
      go_wp2
      all_goals (go_ret2; exact ⟨by simp [relRef], ((Below.refl _ _).alloc (Nat.le_refl _) _).alloc (by simp) _⟩)
    ·
      go_enter Try.func11, Try.ntmps11
      go_wp2
      all_goals (go_ret2; exact ⟨by simp [relRef], ((Below.refl _ _).alloc (Nat.le_refl _) _).alloc (by simp) _⟩)
    ·
      go_enter Try.func11, Try.ntmps11
      go_wp2
      all_goals (go_ret2; exact ⟨by simp [relRef], ((Below.refl _ _).alloc (Nat.le_refl _) _).alloc (by simp) _⟩)
  have g1 : (kind == (1 : Int)) = false := by simp [k1]
  have g0 : (kind == (0 : Int)) = false := by simp [k0]
  have g6 : (kind == (6 : Int)) = false := by simp [k6]
  have g7 : (kind == (7 : Int)) = false := by simp [k7]
  have g3 : (kind == (3 : Int)) = false := by simp [k3]
  have g4 : (kind == (4 : Int)) = false := by simp [k4]
  have g5 : (kind == (5 : Int)) = false := by simp [k5]
  go_enter Try.func11, Try.ntmps11
  go_wp2
  all_goals (go_ret2; exact ⟨by simp [relRef, k1, k0, k6, k7, k3, k4, k5], ((Below.refl _ _).alloc (Nat.le_refl _) _).alloc (by simp) _⟩)

theorem fact_any (base addr size mod off beh : Int) (st mi : Bool) (w : World) :
    Calls Try.prog 12 #[.agg #[.int .i64 base, .int .i64 addr, .int .i64 size, .int .i64 mod, .int .i64 off, .int .i64 beh, .bool st, .bool mi]] w fun e w' =>
      e = .returned (.agg #[.int .i64 base, .int .i64 addr, .int .i64 size, .int .i64 mod, .int .i64 off, .int .i64 beh, .bool st, .bool mi]) ∧ Below w.heap.size w w' := by
  go_enter Try.func12, Try.ntmps12
  go_wp2
  simp [bodyPost, results, Try.results12, go_sem]
  exact ((Below.refl _ _).alloc (Nat.le_refl _) _).alloc (by simp) _

end Go.Proofs.Ytpononkgeeahdaa
