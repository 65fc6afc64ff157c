/-
  Layer 5: SpaceWords: the plain law.
  Conditions: none. (My own text.)
-/
import Derived.Test.YtpononkgeeahdaaSpu
namespace Go.Proofs.Ytpononkgeeahdaa
open Go.RowKit Spm
set_option linter.unusedVariables false
set_option linter.unusedSimpArgs false

theorem byteN_toNat (n : Int) (m : Nat) : (byteN n m).toNat = (n % 18446744073709551616).toNat / m % 256 := by
  unfold byteN
  simp
theorem leS_bytes (m : Nat) (hm : m < 18446744073709551616) : m / 1 % 256 + 256 * (m / 256 % 256 + 256 * (m / 65536 % 256 + 256 * (m / 16777216 % 256 + 256 * (m / 4294967296 % 256 + 256 * (m / 1099511627776 % 256 + 256 * (m / 281474976710656 % 256 + 256 * (m / 72057594037927936 % 256 + 256 * 0))))))) = m := by
  have e2 : m / 65536 = m / 256 / 256 := by rw [Nat.div_div_eq_div_mul]
  have e3 : m / 16777216 = m / 256 / 256 / 256 := by rw [Nat.div_div_eq_div_mul, Nat.div_div_eq_div_mul]
  have e4 : m / 4294967296 = m / 256 / 256 / 256 / 256 := by rw [Nat.div_div_eq_div_mul, Nat.div_div_eq_div_mul, Nat.div_div_eq_div_mul]
  have e5 : m / 1099511627776 = m / 256 / 256 / 256 / 256 / 256 := by rw [Nat.div_div_eq_div_mul, Nat.div_div_eq_div_mul, Nat.div_div_eq_div_mul, Nat.div_div_eq_div_mul]
  have e6 : m / 281474976710656 = m / 256 / 256 / 256 / 256 / 256 / 256 := by rw [Nat.div_div_eq_div_mul, Nat.div_div_eq_div_mul, Nat.div_div_eq_div_mul, Nat.div_div_eq_div_mul, Nat.div_div_eq_div_mul]
  have e7 : m / 72057594037927936 = m / 256 / 256 / 256 / 256 / 256 / 256 / 256 := by rw [Nat.div_div_eq_div_mul, Nat.div_div_eq_div_mul, Nat.div_div_eq_div_mul, Nat.div_div_eq_div_mul, Nat.div_div_eq_div_mul, Nat.div_div_eq_div_mul]
  rw [e2, e3, e4, e5, e6, e7]
  omega
theorem wordS_bytesS (n : Int) (h1 : -9223372036854775808 ≤ n) (h2 : n ≤ 9223372036854775807) : wordS (bytesS n) = n := by
  unfold wordS bytesS leS leS leS leS leS leS leS leS leS
  simp only [byteN_toNat]
  generalize hm : (n % 18446744073709551616).toNat = m
  have hm2 : m < 18446744073709551616 := by omega
  rw [leS_bytes m hm2]
  unfold wrap64
  omega

def lw : List Rg := (mapAtS [] 8192 64 3).1
theorem lw_1 : (mapAtS [] 8192 64 3).2 = 0 := by decide +kernel
theorem lw_2 : lw = [⟨8192, 64, 3, zeros 64⟩] := by decide +kernel
theorem lw_part {at_ : Int} {n : Nat} {p : Int} (hp : has 3 p = true) : partS lw at_ n p = if 8192 ≤ at_ ∧ at_ - 8192 < 64 ∧ (n : Int) ≤ 64 - (at_ - 8192) then 0 else 50 := by
  rw [lw_2]
  by_cases h : inside at_ ⟨8192, 64, 3, zeros 64⟩ = true
  · have hk : partK [⟨8192, 64, 3, zeros 64⟩] at_ = 0 := by unfold partK; simp [List.findIdx_cons, h]
    rw [partS_some (r := ⟨8192, 64, 3, zeros 64⟩) (by rw [hk]; rfl)]
    obtain ⟨h1, h2⟩ := inside_iff h
    simp only at h1 h2
    simp only [hp]
    by_cases h3 : 64 - (at_ - 8192) < (n : Int)
    · rw [if_pos h3, if_neg (by omega)]
    · rw [if_neg h3, if_neg (by decide), if_pos ⟨h1, h2, by omega⟩]
  · have h' : inside at_ ⟨8192, 64, 3, zeros 64⟩ = false := by simpa using h
    rw [partS_none (by unfold partK; simp [List.findIdx_cons, h'])]
    unfold inside at h'
    simp at h'
    rw [if_neg (by omega)]
theorem lw_set {at_ n : Int} (h : ¬ (at_ < 8192 ∨ 8248 < at_)) : (setS lw at_ (bytesS n) 2).2 = 0 ∧ (setS lw at_ (bytesS n) 2).1 = [⟨8192, 64, 3, over (zeros 64) (at_ - 8192).toNat (bytesS n)⟩] := by
  have hb : (bytesS n).length = 8 := rfl
  have hE : partS lw at_ (bytesS n).length 2 = 0 := by rw [hb, lw_part (by decide), if_pos (by omega)]
  rw [setS_ok (by rw [hb]; omega) hE]
  refine ⟨rfl, ?_⟩
  have hi : inside at_ ⟨8192, 64, 3, zeros 64⟩ = true := inside_tt (by simp only; omega) (by simp only; omega)
  have hk : partK lw at_ = 0 := by rw [lw_2]; unfold partK; simp [List.findIdx_cons, hi]
  simp only [hk]
  rw [lw_2]
  rfl
theorem lw_bad {at_ n : Int} (h : at_ < 8192 ∨ 8248 < at_) : (setS lw at_ (bytesS n) 2).2 = 50 := by
  have hb : (bytesS n).length = 8 := rfl
  have hE : partS lw at_ (bytesS n).length 2 = 50 := by rw [hb, lw_part (by decide), if_neg (by omega)]
  rw [setS_bad (by rw [hb]; omega) (by rw [hE]; decide), hE]
theorem lw_get {at_ n : Int} (h : ¬ (at_ < 8192 ∨ 8248 < at_)) : getS [⟨8192, 64, 3, over (zeros 64) (at_ - 8192).toNat (bytesS n)⟩] at_ 8 1 = (bytesS n, 0) := by
  have hb : (bytesS n).length = 8 := rfl
  have hi : inside at_ ⟨8192, 64, 3, over (zeros 64) (at_ - 8192).toNat (bytesS n)⟩ = true := inside_tt (by simp only; omega) (by simp only; omega)
  have hk : partK [⟨8192, 64, 3, over (zeros 64) (at_ - 8192).toNat (bytesS n)⟩] at_ = 0 := by unfold partK; simp [List.findIdx_cons, hi]
  have hE : partS [⟨8192, 64, 3, over (zeros 64) (at_ - 8192).toNat (bytesS n)⟩] at_ 8 1 = 0 := by
    rw [partS_some (r := ⟨8192, 64, 3, over (zeros 64) (at_ - 8192).toNat (bytesS n)⟩) (by rw [hk]; rfl)]
    simp only [show has 3 1 = true by decide]
    rw [if_neg (by omega)]; rfl
  have := getS_ok (n := 8) (r := ⟨8192, 64, 3, over (zeros 64) (at_ - 8192).toNat (bytesS n)⟩) (by decide) (by decide) hE (by rw [hk]; rfl)
  rw [show ((8 : Nat) : Int) = 8 from rfl] at this
  rw [this]
  have hz : (zeros 64).length = 64 := by unfold zeros; simp
  congr 1
  simp only
  unfold over
  have hl : ((zeros 64).take (at_ - 8192).toNat).length = (at_ - 8192).toNat := by rw [List.length_take, hz]; omega
  rw [List.append_assoc]
  conv => lhs; rw [← hl]
  rw [hl, List.drop_left' hl, ← hb, List.take_left]
theorem lw_word {at_ n : Int} (h : ¬ (at_ < 8192 ∨ 8248 < at_)) (h1 : -9223372036854775808 ≤ n) (h2 : n ≤ 9223372036854775807) : wordAt [⟨8192, 64, 3, over (zeros 64) (at_ - 8192).toNat (bytesS n)⟩] at_ 1 = (n, 0) := by
  unfold wordAt
  rw [lw_get h, wordS_bytesS n h1 h2]
end Go.Proofs.Ytpononkgeeahdaa
