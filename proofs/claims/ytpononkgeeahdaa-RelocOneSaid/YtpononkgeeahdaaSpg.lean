/-
  Layer 5: Word, PeekWord of the program.
  Conditions: none. (My own text.)
-/
import Derived.Test.YtpononkgeeahdaaSpf
namespace Go.Proofs.Ytpononkgeeahdaa
open Go.RowKit Spm
set_option linter.unusedVariables false
set_option linter.unusedSimpArgs false

theorem getS_len {L : List Rg} (hok : Ok L) {at_ : Int} {n : Nat} {p : Int} (h1 : 1 ≤ n) (h2 : n ≤ 1048576) : (getS L at_ n p).1.length = n ∨ (getS L at_ n p).1 = [] := by
  by_cases hE : partS L at_ n p = 0
  · obtain ⟨r, hr, hrn, _, hin⟩ := partS_ok hE
    obtain ⟨hi1, hi2⟩ := inside_iff hin
    rw [getS_ok h1 h2 hE hr]
    have := (hok.each r (List.mem_of_getElem? hr)).len
    left
    simp
    omega
  · rw [getS_bad h1 h2 hE]
    right; rfl
def wordAt (L : List Rg) (at_ p : Int) : Int × Int := (wordS (getS L at_ 8 p).1, (getS L at_ 8 p).2)

theorem sPeekWord_any (a : Nat) (F : Nat → Prop) (L : List Rg) (hok : Ok L) (at_ : Int) (hat : at_ ≤ 9223372036854775807) (w : World) (h : PSp w a F L) :
    Calls Try.prog 17 #[.pointer (some ⟨a, 0, none⟩), .int .i64 at_] w fun e w' => e = .returned (.tuple #[.int .i64 (wordAt L at_ 0).1, .int .i64 (wordAt L at_ 0).2]) ∧ Below w.heap.size w w' := by
  have C1 := Lib.hid (peek_any a F L hok at_ hat 8 w h)
  have HL := Lib.hid (getS_len hok (at_ := at_) (n := 8) (p := 0) (by decide) (by decide))
  have e8 : ((8 : Nat) : Int) = 8 := rfl
  rw [e8] at HL
  clear hok h e8
  unfold wordAt
  generalize getS L at_ 8 0 = r at C1 HL ⊢
  go_enter Try.func17, Try.ntmps17
  go_wp2_with fail
  refine (C1.out).mono ?_
  rintro e w1 ⟨v', rfl, hown, h1⟩
  have H1 := Lib.hid h1; clear h1
  have HW := Lib.hid hown; clear hown
  go_wp2_with fail
  refine (word_any _ _ _ HL.out _ HW.out).mono ?_
  rintro e w2 ⟨rfl, rfl⟩
  go_wp2
  go_ret2
  exact ⟨rfl, H1.out⟩
end Go.Proofs.Ytpononkgeeahdaa
