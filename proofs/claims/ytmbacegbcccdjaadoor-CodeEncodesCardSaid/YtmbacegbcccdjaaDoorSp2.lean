/-
  Layer 5: slices.Clone at bytes and at regions.
  Layer 5: get, Read, Peek, Fetch of the program.
  Layer 5: word and bytesOf of the program: eight bytes as a number, the lowest first.
  Layer 5: Word, PeekWord of the program.
  Conditions: none. (My own text.)
-/
import Derived.Test.YtmbacegbcccdjaaDoorSp1
import Derived.Deep.LoopGhost
import Derived.Lib.Walk
import Derived.Lib.SliceRun
import Derived.Laws.MakeOwn
namespace Go.Proofs.YtmbacegbcccdjaaDoor
open Go.RowKit Spm
set_option linter.unusedVariables false
set_option linter.unusedSimpArgs false
open Go.Lib


set_option maxRecDepth 100000 in
theorem cloneB_info : (Tryd.prog.info? 5).map (fun i => (i.zero, i.size, i.bytes)) = some (some (.int .u8 0), 1, 1) := by kernel_rfl

end Go.Proofs.YtmbacegbcccdjaaDoor

namespace Go.Proofs.YtmbacegbcccdjaaDoor
open Go.RowKit Spm
set_option linter.unusedVariables false
set_option linter.unusedSimpArgs false

/-- Bytes of the call's own, and an error. -/
def GotB (base : Nat) (l : List UInt8) (err : Int) (w : World) (e : Ending) (w' : World) : Prop := ∃ v', e = .returned (.tuple #[v', .int .i64 err]) ∧ Bys w' base v' l ∧ Below base w w'
theorem GotB.mk {base : Nat} {l : List UInt8} {err : Int} {w w' : World} {v' : Value} (h : Bys w' base v' l) (hb : Below base w w') : GotB base l err w (.returned (.tuple #[v', .int .i64 err])) w' := ⟨v', rfl, h, hb⟩
theorem GotB.nil {base : Nat} {err : Int} {w w' : World} (hb : Below base w w') : GotB base [] err w (.returned (.tuple #[.slice none 0 0, .int .i64 err])) w' := ⟨_, rfl, World.ownsRow_nil _ _ _ _, hb⟩
theorem GotB.eq {base : Nat} {l l' : List UInt8} {err err' : Int} {w w' : World} {e : Ending} (h : GotB base l err w e w') (h1 : l = l') (h2 : err = err') : GotB base l' err' w e w' := by subst h1; subst h2; exact h

theorem getS_arg {L : List Rg} {at_ n p : Int} (h : n < 1 ∨ 1048576 < n) : getS L at_ n p = ([], 1) := by unfold getS; exact if_pos h
theorem getS_bad {L : List Rg} {at_ p : Int} {n : Nat} (h1 : 1 ≤ n) (h2 : n ≤ 1048576) (h : partS L at_ n p ≠ 0) : getS L at_ n p = ([], partS L at_ n p) := by
  unfold getS; rw [if_neg (by omega), if_pos (by simpa using h), Int.toNat_natCast]
theorem partS_ok {L : List Rg} {at_ p : Int} {n : Nat} (h : partS L at_ n p = 0) : ∃ r, L[partK L at_]? = some r ∧ ¬ r.sz - (at_ - r.at_) < n ∧ has r.pm p = true ∧ inside at_ r = true := by
  unfold partS at h
  split at h
  · simp at h
  · rename_i r hr
    have hl := (List.getElem?_eq_some_iff.1 hr).1
    have he := (List.getElem?_eq_some_iff.1 hr).2
    refine ⟨r, hr, fun hc => by rw [if_pos hc] at h; simp at h, ?_, ?_⟩
    · cases hh : has r.pm p
      · rw [hh] at h
        split at h <;> simp at h
      · rfl
    · have := List.findIdx_getElem (p := inside at_) (xs := L) (w := hl)
      rw [← he]; exact this
theorem getS_ok {L : List Rg} {at_ p : Int} {n : Nat} {r : Rg} (h1 : 1 ≤ n) (h2 : n ≤ 1048576) (h : partS L at_ n p = 0) (hr : L[partK L at_]? = some r) : getS L at_ n p = ((r.bs.drop (at_ - r.at_).toNat).take n, 0) := by
  unfold getS; rw [if_neg (by omega), if_neg (by simpa using h), hr]; simp only [Int.toNat_natCast]
theorem inside_iff {at_ : Int} {r : Rg} (h : inside at_ r = true) : r.at_ ≤ at_ ∧ at_ - r.at_ < r.sz := by unfold inside at h; simpa using h

end Go.Proofs.YtmbacegbcccdjaaDoor

namespace Go.Proofs.YtmbacegbcccdjaaDoor
open Go.RowKit Spm
set_option linter.unusedVariables false
set_option linter.unusedSimpArgs false

theorem bits_or_u64_nat (a b : Nat) (ha : a < 18446744073709551616) (hb : b < 18446744073709551616) : bits .or .u64 (a : Int) (b : Int) = ((a ||| b : Nat) : Int) := by
  have hx : a ||| b < 2 ^ 64 := Nat.or_lt_two_pow (by omega) (by omega)
  have h1 : (BitVec.ofInt 64 (a : Int)).toNat = a := by
    rw [BitVec.ofInt_natCast, BitVec.toNat_ofNat]; exact Nat.mod_eq_of_lt (by omega)
  have h2 : (BitVec.ofInt 64 (b : Int)).toNat = b := by
    rw [BitVec.ofInt_natCast, BitVec.toNat_ofNat]; exact Nat.mod_eq_of_lt (by omega)
  show IntKind.u64.wrap ((BitVec.ofInt 64 (a : Int) ||| BitVec.ofInt 64 (b : Int)).toNat : Int) = _
  rw [BitVec.toNat_or, h1, h2, IntKind.wrap_u64]
  omega
theorem or_at (m y : Nat) (k : Nat) (hm : m < 2 ^ k) (hy : y < 256) (hk : k ≤ 56) : bits BinOp.or IntKind.u64 (m : Int) ((y * 2 ^ k : Nat) : Int) = ((m + y * 2 ^ k : Nat) : Int) := by
  have h2 : (2 : Nat) ^ k ≤ 2 ^ 56 := Nat.pow_le_pow_right (by decide) hk
  have e : y * 2 ^ k ||| m = y * 2 ^ k + m := by rw [← Nat.shiftLeft_eq, Nat.shiftLeft_add_eq_or_of_lt hm]
  have hb : y * 2 ^ k + m < 18446744073709551616 := by
    have : y * 2 ^ k ≤ 255 * 2 ^ k := Nat.mul_le_mul_right _ (by omega)
    have : (2 : Nat) ^ 56 = 72057594037927936 := by decide
    omega
  rw [bits_or_u64_nat _ _ (by omega) (by omega), Nat.or_comm, e, Nat.add_comm]

/-- The number of bytes, the lowest first. -/
def leS : List UInt8 → Nat
  | [] => 0
  | b :: l => b.toNat + 256 * leS l
/-- A word. -/
def wordS (l : List UInt8) : Int := wrap64 (leS l)

/-- The eight bytes of a word. -/
def byteN (n : Int) (m : Nat) : UInt8 := UInt8.ofNat ((n % 18446744073709551616).toNat / m)
def bytesS (n : Int) : List UInt8 := [byteN n 1, byteN n 256, byteN n 65536, byteN n 16777216, byteN n 4294967296, byteN n 1099511627776, byteN n 281474976710656, byteN n 72057594037927936]
theorem byC_byteN (n : Int) (m : Nat) : byC (byteN n m) = .int .u8 (IntKind.u64.wrap n / (m : Int) % 256) := by
  have h0 : 0 ≤ n % 18446744073709551616 := Int.emod_nonneg _ (by decide)
  unfold byC byteN
  rw [IntKind.wrap_u64]
  obtain ⟨k, hk⟩ := Int.eq_ofNat_of_zero_le h0
  rw [hk, Int.toNat_natCast]
  congr 1

end Go.Proofs.YtmbacegbcccdjaaDoor

namespace Go.Proofs.YtmbacegbcccdjaaDoor
open Go.RowKit Spm
set_option linter.unusedVariables false
set_option linter.unusedSimpArgs false

theorem getS_len {L : List Rg} (hok : Ok L) {at_ : Int} {n : Nat} {p : Int} (h1 : 1 ≤ n) (h2 : n ≤ 1048576) : (getS L at_ n p).1.length = n ∨ (getS L at_ n p).1 = [] := by
  by_cases hE : partS L at_ n p = 0
  · obtain ⟨r, hr, hrn, _, hin⟩ := partS_ok hE
    obtain ⟨hi1, hi2⟩ := inside_iff hin
    rw [getS_ok h1 h2 hE hr]
    have := (hok.each r (List.mem_of_getElem? hr)).len
    left
    simp
    omega
  · rw [getS_bad h1 h2 hE]
    right; rfl
def wordAt (L : List Rg) (at_ p : Int) : Int × Int := (wordS (getS L at_ 8 p).1, (getS L at_ 8 p).2)

end Go.Proofs.YtmbacegbcccdjaaDoor
