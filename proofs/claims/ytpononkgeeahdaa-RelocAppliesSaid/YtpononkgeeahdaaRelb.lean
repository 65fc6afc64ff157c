/-
  Layer 16: Apply at things that the law owns; the plain laws of RelocLast, RelocCopies, RelocOne.
  Conditions: none. (My own text.)
-/
import Derived.Test.YtpononkgeeahdaaRela
import Derived.Test.YtpononkgeeahdaaSp6
namespace Go.Proofs.Ytpononkgeeahdaa
open Go.RowKit Spm
set_option linter.unusedVariables false
set_option linter.unusedSimpArgs false

theorem own_apply {B : Nat} {w wr : World} {a : Nat} {L : List Rg} {Y : Res} [hY : Fr Y] (h : Has B w wr (Star (Sp a L) Y)) (base : Int) (vr vf : Value) (rs : List Rel) (fs : List Fct) (hfs : ∀ f ∈ fs, f.addr ≤ 9223372036854775807)
    (hr : Away 4 relC vr rs B wr Y) (hf : Away 8 fctC vf fs B wr Y) :
    Calls Try.prog 16 #[.pointer (some ⟨a, 0, none⟩), .int .i64 base, vr, vf] wr fun e w' => e = .returned (.int .i64 (applyS L base rs fs).2) ∧ Has B w w' (Star (Sp a (applyS L base rs fs).1) Y) :=
  h.callY fun F G ⟨h1, ok⟩ h2 hd hB => (apply_any a F L ok base vr vf rs fs hfs wr h1 (hr F G h2 hd hB) (hf F G h2 hd hB)).mono fun _ _ hs => ⟨hs.1, Goes.sets hs (applyS_ok ok _ _ _)⟩

theorem set_err (L : List Rg) (x : Int) (b : List UInt8) (p : Int) : (setS L x b p).2 = if b.length < 1 ∨ 1048576 < b.length then 1 else partS L x b.length p := by
  unfold setS
  split
  · rfl
  · split
    · rfl
    · rename_i h; simp only; simp at h; exact h.symm

/-! RelocLast. -/
def rl : List Rg := (mapAtS [] 4096 64 0).1
theorem rl_1 : (mapAtS [] 4096 64 0).2 = 0 := by decide +kernel
theorem rl_ok : Ok rl := Ok.nil.mapAt _ _ _
theorem rl_part : partS rl 4104 8 0 = 0 := by decide +kernel
theorem rl_set (n : Int) : (setS rl 4104 (bytesS n) 0).2 = 0 := by rw [set_err, show (bytesS n).length = 8 from rfl, rl_part]; rfl
theorem rl_set2 (n m : Int) : (setS (setS rl 4104 (bytesS n) 0).1 4104 (bytesS m) 0).2 = 0 := by
  have h : partS (setS rl 4104 (bytesS n) 0).1 4104 8 0 = 0 := by
    have h1 := get_err_set rl 4104 4104 8 0 0 (bytesS n)
    rw [get_err, get_err] at h1
    have h2 : partS rl 4104 (8 : Int).toNat 0 = 0 := rl_part
    rw [h2] at h1
    exact h1
  rw [set_err, show (bytesS m).length = 8 from rfl, h]; rfl
def rfa (a : Int) : Fct := ⟨0, a, 0, 0, 0, 0, false, false⟩
def rr8 : Rel := ⟨8, 0, 0, 0⟩
theorem rl_apply (a b : Int) (ha : I64 a) (hb : I64 b) : applyS rl 4096 [rr8, rr8] [rfa a, rfa b] = setS (setS rl 4104 (bytesS b) 0).1 4104 (bytesS a) 0 := by
  have h1 : ∀ (L : List Rg) (c : Int), I64 c → oneS L 4096 rr8 (rfa c) = setS L 4104 (bytesS c) 0 := fun L c hc => by
    have e : wordS_ rr8 (rfa c) = (c, 0) := by
      have : wrap64 c = c := by unfold I64 at hc; unfold wrap64; omega
      simp [wordS_, relWord, rr8, rfa, this]
    unfold oneS
    rw [if_neg (by simp [rr8]), e, if_neg (by simp), show wrap64 (4096 + rr8.at_) = 4104 from by show wrap64 (4096 + 8) = 4104; unfold wrap64; omega]
  unfold applyS
  rw [if_neg (by simp)]
  show applyL 4096 [(rr8, rfa b), (rr8, rfa a)] rl = _
  unfold applyL
  simp only [h1 _ _ hb]
  rw [if_neg (by simp [rl_set])]
  unfold applyL
  simp only [h1 _ _ ha]
  rw [if_neg (by simp [rl_set2])]
  unfold applyL
  exact Prod.ext rfl (rl_set2 b a).symm
theorem rl_word (a b : Int) (ha : I64 a) : wordAt (setS (setS rl 4104 (bytesS b) 0).1 4104 (bytesS a) 0).1 4104 0 = (a, 0) := by
  have h := set_get (rl_ok.set 4104 (bytesS b) 0) (rl_set2 b a)
  rw [show (bytesS a).length = 8 from rfl] at h
  unfold wordAt
  have h' : getS (setS (setS rl 4104 (bytesS b) 0).1 4104 (bytesS a) 0).1 4104 8 0 = (bytesS a, 0) := h
  rw [h']
  simp only
  rw [wordS_bytesS a ha.1 ha.2]
theorem apply_one (L : List Rg) (base : Int) (r : Rel) (f : Fct) : applyS L base [r] [f] = oneS L base r f := by
  unfold applyS
  rw [if_neg (by simp)]
  show applyL base [(r, f)] L = _
  unfold applyL
  simp only
  split
  · rfl
  · rename_i h
    unfold applyL
    have h' : (oneS L base r f).2 = 0 := by simpa using h
    exact Prod.ext rfl h'.symm

/-! RelocCopies. -/
theorem copies_law {L : List Rg} (h : Ok L) {x y : Int} {n : Nat} (h1 : 1 ≤ n) (h2 : n ≤ 256) (hx : I64 x) :
    ((getS L y n 0).2 ≠ 0 → applyS L x [⟨0, 2, 0, 0⟩] [⟨0, y, n, 0, 0, 0, false, false⟩] = (L, (getS L y n 0).2)) ∧
    ((getS L y n 0).2 = 0 → applyS L x [⟨0, 2, 0, 0⟩] [⟨0, y, n, 0, 0, 0, false, false⟩] = setS L x (getS L y n 0).1 0 ∧
      ((getS (setS L x (getS L y n 0).1 0).1 x n 0).2 ≠ 0 → (setS L x (getS L y n 0).1 0).2 = (getS (setS L x (getS L y n 0).1 0).1 x n 0).2) ∧
      ((getS (setS L x (getS L y n 0).1 0).1 x n 0).2 = 0 → (setS L x (getS L y n 0).1 0).2 = 0 ∧ (getS (setS L x (getS L y n 0).1 0).1 x n 0).1 = (getS L y n 0).1)) := by
  have hw : wrap64 (x + 0) = x := by unfold I64 at hx; unfold wrap64; omega
  have e : applyS L x [⟨0, 2, 0, 0⟩] [⟨0, y, n, 0, 0, 0, false, false⟩] = if (getS L y n 0).2 ≠ 0 then (L, (getS L y n 0).2) else setS L x (getS L y n 0).1 0 := by
    rw [apply_one]
    unfold oneS
    rw [if_pos rfl]
    unfold copyS
    rw [if_neg (by simp; omega)]
    simp only [hw]
  refine ⟨fun hn => by rw [e, if_pos hn], fun hz => ⟨by rw [e, if_neg (by simp [hz])], ?_⟩⟩
  have hl : (getS L y n 0).1.length = n := by
    have hp : partS L y n 0 = 0 := by
      rw [get_err, if_neg (by omega)] at hz
      simpa using hz
    obtain ⟨r, hr, hrn, _, hin⟩ := partS_ok hp
    obtain ⟨i1, i2⟩ := inside_iff hin
    have := (h.each r (List.mem_of_getElem? hr)).len
    rw [getS_ok h1 (by omega) hp hr]
    simp
    omega
  generalize (getS L y n 0).1 = b at hl ⊢
  have e2 : (getS (setS L x b 0).1 x n 0).2 = (setS L x b 0).2 := by
    rw [get_err_set, get_err, set_err, hl]
    rw [if_neg (by omega), if_neg (by omega), Int.toNat_natCast]
  refine ⟨fun _ => e2.symm, fun hz => ?_⟩
  rw [e2] at hz
  have hg := set_get h hz
  rw [hl] at hg
  exact ⟨hz, by rw [hg]⟩

/-! RelocOne. -/
theorem one_law {L : List Rg} (h : Ok L) {x : Int} {n y : Int} (hn : I64 n) :
    (getS (setS L x (bytesS n) 0).1 y 1 0).2 = (getS L y 1 0).2 ∧
    ((setS L x (bytesS n) 0).2 = 0 → wordAt (setS L x (bytesS n) 0).1 x 0 = (n, 0) ∧ 4096 ≤ x ∧ x ≤ 4294967296) ∧
    ((getS L y 1 0).2 = 0 → 4096 ≤ y ∧ y ≤ 4294967296) ∧
    ((setS L x (bytesS n) 0).2 = 0 → (getS L y 1 0).2 = 0 → (y < x ∨ x + 8 ≤ y) → (getS (setS L x (bytesS n) 0).1 y 1 0).1 = (getS L y 1 0).1) := by
  refine ⟨get_err_set _ _ _ _ _ _ _, fun hz => ?_, fun hz => ?_, fun hz hy hd => set_other h hz hy hd⟩
  · have hg := set_get h hz
    rw [show (bytesS n).length = 8 from rfl] at hg
    have hg' : getS (setS L x (bytesS n) 0).1 x 8 0 = (bytesS n, 0) := hg
    have hb := hz
    rw [set_err, show (bytesS n).length = 8 from rfl, if_neg (by omega)] at hb
    obtain ⟨r, hr, hrn, _, hin⟩ := partS_ok hb
    obtain ⟨i1, i2⟩ := inside_iff hin
    have hr' := h.each r (List.mem_of_getElem? hr)
    have h1 := hr'.lo; have h2 := hr'.hi
    refine ⟨?_, by omega, by omega⟩
    unfold wordAt
    rw [hg']
    simp only
    rw [wordS_bytesS n hn.1 hn.2]
  · have hb := hz
    rw [get_err, if_neg (by omega)] at hb
    obtain ⟨r, hr, hrn, _, hin⟩ := partS_ok hb
    obtain ⟨i1, i2⟩ := inside_iff hin
    have hr' := h.each r (List.mem_of_getElem? hr)
    have h1 := hr'.lo; have h2 := hr'.hi
    omega
theorem wrap64_i64 (n : Int) : I64 (wrap64 n) := by unfold I64 wrap64; omega
theorem relWord_i64 (r : Rel) (f : Fct) (hs : I64 f.size) (hm : I64 f.mod) : I64 (wordS_ r f).1 := by
  have h0 : I64 0 := by unfold I64; omega
  unfold wordS_ relWord
  (repeat' split) <;> first | exact wrap64_i64 _ | assumption | exact h0
end Go.Proofs.Ytpononkgeeahdaa
