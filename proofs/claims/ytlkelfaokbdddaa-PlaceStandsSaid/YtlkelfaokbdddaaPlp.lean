/-
  Layer 15, plain: a byte of what stands for a segment, read and written.
  Conditions: none. (My own text.)
-/
import Derived.Test.YtlkelfaokbdddaaPlo
namespace Go.Proofs.Ytlkelfaokbdddaa
open Spm
set_option linter.unusedVariables false
set_option linter.unusedSimpArgs false

def wantS (s : Sg) (k : Nat) : UInt8 := s.b.getD k 0
theorem stand_part {L : List Rg} (h : Ok L) {base : Int} {s : Sg} (hs : stand base s ∈ L) (hg : SgGood s) {k : Nat} (hk : (k : Int) < s.sz) (p : Int) :
    L[partK L (base + s.at_ + k)]? = some (stand base s) ∧ partS L (base + s.at_ + k) 1 p = if has s.pm p = false then 52 else 0 := by
  obtain ⟨i, hi⟩ := List.mem_iff_getElem?.1 hs
  have hu := up_ge s.sz hg.s0
  have hp := partK_eq h hi (inside_of (x := base + s.at_ + k) (by simp only [stand]; omega) (by simp only [stand]; omega))
  refine ⟨by rw [hp]; exact hi, ?_⟩
  rw [partS_some (hp ▸ hi), if_neg (by simp only [stand]; omega)]
  rfl
theorem stand_get {L : List Rg} (h : Ok L) {base : Int} {s : Sg} (hs : stand base s ∈ L) (hg : SgGood s) {k : Nat} (hk : (k : Int) < s.sz) (p : Int) :
    getS L (base + s.at_ + k) 1 p = if has s.pm p = false then ([], 52) else ([wantS s k], 0) := by
  obtain ⟨h1, h2⟩ := stand_part h hs hg hk p
  have hu := up_ge s.sz hg.s0
  unfold getS
  rw [if_neg (by omega), show (1 : Int).toNat = 1 from rfl, h2]
  by_cases hh : has s.pm p = false
  · rw [if_pos hh, if_pos (by decide), if_pos hh]
  · rw [if_neg hh, if_neg (by simp), if_neg hh, h1]
    simp only [stand]
    rw [show (base + s.at_ + (k : Int) - (base + s.at_)).toNat = k by omega]
    congr 1
    have hz : (zeros (up s.sz)).length = (up s.sz).toNat := by simp [zeros]
    have hbl := hg.bl
    unfold over wantS
    simp only [List.take_zero, List.nil_append, Nat.zero_add]
    by_cases hkb : k < s.b.length
    · rw [List.drop_append_of_le_length (by omega), List.take_append_of_le_length (by simp; omega)]
      rw [List.getD_eq_getElem?_getD, List.getElem?_eq_getElem hkb]
      rw [List.drop_eq_getElem_cons hkb]
      rfl
    · have hkz : k - s.b.length < ((zeros (up s.sz)).drop s.b.length).length := by rw [List.length_drop, hz]; omega
      rw [List.drop_append, List.drop_eq_nil_of_le (by omega), List.nil_append, List.drop_eq_getElem_cons hkz]
      rw [List.getD_eq_getElem?_getD, List.getElem?_eq_none (by omega)]
      simp [zeros]
theorem stand_set {L : List Rg} (h : Ok L) {base : Int} {s : Sg} (hs : stand base s ∈ L) (hg : SgGood s) {k : Nat} (hk : (k : Int) < s.sz) (p : Int) (x : UInt8) :
    (setS L (base + s.at_ + k) [x] p).2 = if has s.pm p = false then 52 else 0 := by
  obtain ⟨h1, h2⟩ := stand_part h hs hg hk p
  unfold setS
  rw [if_neg (by simp), show [x].length = 1 from rfl, h2]
  by_cases hh : has s.pm p = false
  · rw [if_pos hh, if_pos (by decide)]
  · rw [if_neg hh, if_neg (by simp)]
end Go.Proofs.Ytlkelfaokbdddaa
