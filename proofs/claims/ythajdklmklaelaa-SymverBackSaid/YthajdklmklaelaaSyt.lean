/-
  Layer 7: what Print and Right compute, of the program and of the document.
  Conditions: none. (My own text.)
-/
import Derived.Test.YthajdklmklaelaaSyz
import Derived.Test.YthajdklmklaelaaSym
namespace Go.Proofs.Ythajdklmklaelaa
open Go.RowKit
set_option linter.unusedVariables false
set_option linter.unusedSimpArgs false

def printS (n v : ByteArray) (o d : Bool) : ByteArray :=
  if v.toList.isEmpty = true then n else if (d && !o) = true then n ++ ⟨#[64, 64]⟩ ++ v else n ++ ⟨#[64]⟩ ++ v

theorem add_at (n v : ByteArray) : n ++ ⟨#[64]⟩ ++ ⟨#[64]⟩ ++ v = n ++ ⟨#[64, 64]⟩ ++ v := by
  congr 1
  rw [ByteArray.append_assoc]
  rfl

/-- Is a symbol right? (bn, bv: is its name one, its version; be: it has none.) -/
def rightB (bn be bv o d : Bool) (k i a s : Int) : Bool :=
  bn && (be || bv) && decide (1 ≤ k) && decide (k ≤ 3) && decide (0 ≤ i) && decide (i ≤ 2) && decide (0 ≤ a) && decide (0 ≤ s) && (d || (!o && (i == 0) && (a == 0) && (s == 0))) && !(o && be)
def rightS (n v : ByteArray) (o d : Bool) (k i a s : Int) : Bool := rightB (nameS n) v.toList.isEmpty (nameS v) o d k i a s

set_option maxHeartbeats 1000000 in
theorem print_any (n v : ByteArray) (o wk d : Bool) (k i a s : Int) (hn : n.size ≤ 140737488351232) (hv : v.size ≤ 140737488351232) (w : World) :
    Calls Try.prog 21 #[.agg #[.string n, .string v, .bool o, .int .i64 k, .bool wk, .int .i64 i, .bool d, .int .i64 a, .int .i64 s]] w fun e w' => e = .returned (.string (printS n v o d)) ∧ Below w.heap.size w w' := by
  have z1 : (⟨#[64]⟩ : ByteArray).size = 1 := rfl
  have z2 : (⟨#[64, 64]⟩ : ByteArray).size = 2 := rfl
  cases hE : v.toList.isEmpty
  · cases d
    · have hp : printS n v o false = n ++ ⟨#[64]⟩ ++ v := by unfold printS; rw [hE]; rfl
      have HP := Lib.hid hp; clear hp
      go_enter Try.func21, Try.ntmps21
      go_wp2
      go_ret
      exact ⟨by rw [HP.out]; first | rfl | (rw [← add_at]; rfl), (Below.refl _ _).alloc (Nat.le_refl _) _⟩
    · cases o
      · have hp : printS n v false true = n ++ ⟨#[64, 64]⟩ ++ v := by unfold printS; rw [hE]; rfl
        have HP := Lib.hid hp; clear hp
        go_enter Try.func21, Try.ntmps21
        go_wp2
        go_ret
        exact ⟨by rw [HP.out]; first | rfl | (rw [← add_at]; rfl), (Below.refl _ _).alloc (Nat.le_refl _) _⟩
      · have hp : printS n v true true = n ++ ⟨#[64]⟩ ++ v := by unfold printS; rw [hE]; rfl
        have HP := Lib.hid hp; clear hp
        go_enter Try.func21, Try.ntmps21
        go_wp2
        go_ret
        exact ⟨by rw [HP.out]; first | rfl | (rw [← add_at]; rfl), (Below.refl _ _).alloc (Nat.le_refl _) _⟩
  · have hp : printS n v o d = n := by unfold printS; rw [hE]; rfl
    have HP := Lib.hid hp; clear hp
    go_enter Try.func21, Try.ntmps21
    go_wp2
    go_ret
    exact ⟨by rw [HP.out]; first | rfl | (rw [← add_at]; rfl), (Below.refl _ _).alloc (Nat.le_refl _) _⟩

set_option maxHeartbeats 1000000 in
theorem refPrint_any (n v : ByteArray) (o wk d : Bool) (k i a s : Int) (hn : n.size ≤ 140737488351232) (hv : v.size ≤ 140737488351232) (w : World) :
    Calls Try.prog 22 #[.agg #[.string n, .string v, .bool o, .int .i64 k, .bool wk, .int .i64 i, .bool d, .int .i64 a, .int .i64 s]] w fun e w' => e = .returned (.string (printS n v o d)) ∧ Below w.heap.size w w' := by
  have z1 : (⟨#[64]⟩ : ByteArray).size = 1 := rfl
  have z2 : (⟨#[64, 64]⟩ : ByteArray).size = 2 := rfl
  cases hE : v.toList.isEmpty
  · cases d
    · have hp : printS n v o false = n ++ ⟨#[64]⟩ ++ v := by unfold printS; rw [hE]; rfl
      have HP := Lib.hid hp; clear hp
      go_enter Try.func22, Try.ntmps22
      go_wp2
      go_ret
      exact ⟨by rw [HP.out]; first | rfl | (rw [← add_at]; rfl), (Below.refl _ _).alloc (Nat.le_refl _) _⟩
    · cases o
      · have hp : printS n v false true = n ++ ⟨#[64, 64]⟩ ++ v := by unfold printS; rw [hE]; rfl
        have HP := Lib.hid hp; clear hp
        go_enter Try.func22, Try.ntmps22
        go_wp2
        go_ret
        exact ⟨by rw [HP.out]; first | rfl | (rw [← add_at]; rfl), (Below.refl _ _).alloc (Nat.le_refl _) _⟩
      · have hp : printS n v true true = n ++ ⟨#[64]⟩ ++ v := by unfold printS; rw [hE]; rfl
        have HP := Lib.hid hp; clear hp
        go_enter Try.func22, Try.ntmps22
        go_wp2
        go_ret
        exact ⟨by rw [HP.out]; first | rfl | (rw [← add_at]; rfl), (Below.refl _ _).alloc (Nat.le_refl _) _⟩
  · have hp : printS n v o d = n := by unfold printS; rw [hE]; rfl
    have HP := Lib.hid hp; clear hp
    go_enter Try.func22, Try.ntmps22
    go_wp2
    go_ret
    exact ⟨by rw [HP.out]; first | rfl | (rw [← add_at]; rfl), (Below.refl _ _).alloc (Nat.le_refl _) _⟩

end Go.Proofs.Ythajdklmklaelaa
