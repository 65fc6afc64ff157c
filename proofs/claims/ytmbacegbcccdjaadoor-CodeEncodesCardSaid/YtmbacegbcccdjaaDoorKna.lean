/-
  Layer 4: numerals, plain: what is written by Itoa is read by Atoi; what a numeral is.
  Conditions: none. (My own text.)
-/
import Derived.Test.YtmbacegbcccdjaaDoorCda
import Derived.Lib.AtoiAllCases
import Derived.Lib.ItoaMem
namespace Go.Proofs.YtmbacegbcccdjaaDoor
open Go.RowKit Go.Lib
set_option linter.unusedVariables false
set_option linter.unusedSimpArgs false

theorem pu_append : ∀ (l : List UInt8) (acc m : Nat) (c : UInt8), parseUint10 acc l = .ok m → parseUint10 acc (l ++ [c]) = parseUint10 m [c]
  | [], acc, m, c, h => by
    simp only [parseUint10] at h
    injection h with h
    subst h
    rfl
  | x :: l, acc, m, c, h => by
    simp only [List.cons_append]
    rw [parseUint10] at h ⊢
    split at h
    · rename_i h1
      rw [if_pos h1]
      split at h
      · cases h
      · rename_i h2
        rw [if_neg h2]
        split at h
        · cases h
        · rename_i h3
          rw [if_neg h3]
          exact pu_append l _ m c h
    · cases h
theorem u8_nat {k : Nat} (h : k < 256) : (UInt8.ofNat k).toNat = k := by simp; omega
theorem pu_digit {m d : Nat} (hd : d < 10) (hm : m * 10 + d < 18446744073709551616) : parseUint10 m [UInt8.ofNat (48 + d)] = .ok (m * 10 + d) := by
  have e := u8_nat (k := 48 + d) (by omega)
  rw [parseUint10, e, if_pos (by omega), if_neg (by omega), if_neg (by omega), parseUint10]
  congr 1
  omega
theorem pu_dec : ∀ (u : Nat), u < 18446744073709551616 → parseUint10 0 (decDigits u) = .ok u := by
  intro u
  induction u using Nat.strongRecOn with
  | _ u ih =>
    intro hu
    rw [decDigits]
    by_cases h : u < 10
    · rw [dif_pos h]
      have := pu_digit (m := 0) h (by omega)
      simpa using this
    · rw [dif_neg h, pu_append _ 0 _ _ (ih (u / 10) (by omega) (by omega)), pu_digit (by omega) (by omega)]
      congr 1
      omega
theorem dec_head : ∀ (u : Nat), ∃ c r, decDigits u = c :: r ∧ 48 ≤ c.toNat ∧ c.toNat ≤ 57 := by
  intro u
  induction u using Nat.strongRecOn with
  | _ u ih =>
    rw [decDigits]
    by_cases h : u < 10
    · rw [dif_pos h]
      exact ⟨_, [], rfl, by rw [u8_nat (by omega)]; omega, by rw [u8_nat (by omega)]; omega⟩
    · rw [dif_neg h]
      obtain ⟨c, r, h1, h2, h3⟩ := ih (u / 10) (by omega)
      rw [h1]
      exact ⟨c, r ++ _, rfl, h2, h3⟩
theorem mag_dec {u : Nat} (hu : u < 18446744073709551616) : parseMag (decDigits u) = .ok u := by
  obtain ⟨c, r, h1, _, _⟩ := dec_head u
  unfold parseMag
  rw [if_neg (by rw [h1]; simp), pu_dec u hu]
/-- What is written is read. -/
theorem atoi_itoa {n : Int} (h0 : -9223372036854775808 ≤ n) (h1 : n ≤ 9223372036854775807) : atoiAll (itoa n) = .ok n := by
  unfold itoa
  by_cases hn : n < 0
  · rw [if_pos hn, atoiAll_minus, mag_dec (by omega)]
    unfold signed
    simp only
    rw [if_neg (by omega)]
    congr 1
    omega
  · rw [if_neg hn]
    obtain ⟨c, r, e, g0, g1⟩ := dec_head n.toNat
    have hm := mag_dec (u := n.toNat) (by omega)
    rw [e] at hm ⊢
    rw [atoiAll_plain c r (by omega) (by omega), hm]
    unfold signless
    simp only
    rw [if_neg (by omega)]
    congr 1
    omega
/-- The number that a text is, as it is written. -/
def numS (s : List UInt8) : Option Int := match atoiAll s with
  | .ok v => if itoa v = s then some v else none
  | _ => none
theorem numS_itoa {n : Int} (h0 : -9223372036854775808 ≤ n) (h1 : n ≤ 9223372036854775807) : numS (itoa n) = some n := by
  unfold numS
  rw [atoi_itoa h0 h1]
  simp
theorem numS_some {s : List UInt8} {n : Int} (h : numS s = some n) : atoiAll s = .ok n ∧ itoa n = s := by
  unfold numS at h
  cases e : atoiAll s with
  | ok v =>
    rw [e] at h
    simp only at h
    split at h
    · rename_i h1
      obtain rfl : v = n := by simpa using h
      exact ⟨rfl, h1⟩
    · cases h
  | range => rw [e] at h; cases h
  | _ => rw [e] at h; cases h
theorem numS_none {s : List UInt8} {v : Int} (h0 : -9223372036854775808 ≤ v) (h1 : v ≤ 9223372036854775807) (h : numS s = none) : itoa v ≠ s := fun e => by
  rw [← e, numS_itoa h0 h1] at h
  cases h
theorem numS_ok {s : List UInt8} {v : Int} (h : atoiAll s = .ok v) (e : itoa v = s) : numS s = some v := by
  unfold numS
  rw [h]
  simp [e]
end Go.Proofs.YtmbacegbcccdjaaDoor
