/-
  Layer 4: what a line is as an instruction, plain.
  Conditions: none. (My own text.)
-/
import Derived.Test.YtmbacegbcccdjaaDoorKnc
import Derived.Lib.SplitLaws
import Derived.Lib.IndexBytes
import Derived.Lib.IndexLaws
namespace Go.Proofs.YtmbacegbcccdjaaDoor
open Go.RowKit Go.Lib
set_option linter.unusedVariables false
set_option linter.unusedSimpArgs false

/-- A text's pieces between a byte. -/
def cutS (c : UInt8) : List UInt8 → List (List UInt8)
  | [] => [[]]
  | x :: l => if x = c then [] :: cutS c l else match cutS c l with
    | p :: r => (x :: p) :: r
    | [] => [[x]]
theorem cutS_ne (c : UInt8) (l : List UInt8) : cutS c l ≠ [] := by
  cases l with
  | nil => simp [cutS]
  | cons x l =>
    unfold cutS
    split
    · simp
    · split <;> simp
theorem splitK_zero (sep : List UInt8) (sv : Nat) (s : List UInt8) : splitK sep sv 0 s = [s] := rfl
theorem splitK_hit (c : UInt8) (k : Nat) (s : List UInt8) (i : Nat) (h : index s [c] = i) : splitK [c] 0 (k + 1) s = s.take i :: splitK [c] 0 k (s.drop (i + 1)) := by
  rw [splitK, if_neg (by rw [h]; simp), h]
  simp
theorem splitK_cut (c : UInt8) : ∀ l : List UInt8, splitK [c] 0 (l.count c) l = cutS c l
  | [] => rfl
  | x :: t => by
    have ih := splitK_cut c t
    by_cases hx : x = c
    · subst hx
      rw [List.count_cons_self, splitK_hit x _ _ 0 (by rw [index_one, indexByte]; simp)]
      unfold cutS
      rw [if_pos rfl]
      simpa using ih
    · rw [List.count_cons_of_ne (by exact hx)]
      unfold cutS
      rw [if_neg hx]
      cases hk : t.count c with
      | zero =>
        rw [hk, splitK_zero] at ih
        rw [splitK_zero, ← ih]
      | succ k =>
        have hpos : indexByte t c ≠ -1 := fun e => by
          have := indexByte_none e
          have hm : c ∈ t := List.count_pos_iff.1 (by omega)
          obtain ⟨j, hj⟩ := List.mem_iff_getElem?.1 hm
          exact this j hj
        have hge := indexByte_ge t c
        obtain ⟨i, hi⟩ : ∃ i : Nat, indexByte t c = i := ⟨(indexByte t c).toNat, by omega⟩
        have e1 : index (x :: t) [c] = ((i + 1 : Nat) : Int) := by
          rw [index_one, indexByte, if_neg (by simpa using hx), if_neg (by simp; omega), hi]
          simp
        rw [hk, splitK_hit c k t i (by rw [index_one]; exact hi)] at ih
        rw [splitK_hit c k (x :: t) (i + 1) e1, ← ih]
        simp
/-- strings.Split at one byte. -/
theorem split_cut (c : UInt8) (s : ByteArray) : (splitB ⟨#[c]⟩ 0 (countB s ⟨#[c]⟩) s).map (·.data.toList) = cutS c s.data.toList := by
  rw [splitB_data]
  have e : countB s ⟨#[c]⟩ = s.data.toList.count c := by
    have := count_one c s.data.toList
    first | exact this | (unfold countB; exact this)
  rw [e]
  exact splitK_cut c _
theorem cutS_len (c : UInt8) : ∀ l : List UInt8, (cutS c l).length = l.count c + 1
  | [] => rfl
  | x :: t => by
    have ih := cutS_len c t
    unfold cutS
    by_cases hx : x = c
    · subst hx
      rw [if_pos rfl, List.count_cons_self, List.length_cons, ih]
    · rw [if_neg hx, List.count_cons_of_ne (by exact hx)]
      cases h : cutS c t with
      | nil => exact absurd h (cutS_ne c t)
      | cons p r => rw [h] at ih; simpa using ih

def kOf (f : UInt8) : Nat := if f = 97 then 0 else if f = 98 then 1 else if f = 99 then 2 else 3
def isL (f : UInt8) : Bool := f == 97 || f == 98 || f == 99 || f == 110
theorem kOf_ltr {f : UInt8} (h : isL f = true) : kOf f < 4 ∧ ltr (kOf f) = (f.toNat : Int) := by
  unfold isL at h
  simp only [Bool.or_eq_true, beq_iff_eq] at h
  rcases h with ((rfl | rfl) | rfl) | rfl <;> exact ⟨by decide, by decide⟩
/-- The number that a word is for a letter of a form. -/
def lwS (f : UInt8) (x : List UInt8) : Option Int :=
  if f = 110 then numR x (lowS 3) (highS 3) else match x with
  | c :: r => if c = 114 then numR r (lowS (kOf f)) (highS (kOf f)) else none
  | [] => none
def setI (i : Ins) (f : UInt8) (n : Int) : Ins := if f = 97 then { i with a := n } else if f = 98 then { i with b := n } else if f = 99 then { i with c := n } else { i with n := n }
def goS : List UInt8 → List (List UInt8) → Ins → Option Ins
  | [], _, i => some i
  | f :: fs, x :: ws, i => match lwS f x with
    | some n => goS fs ws (setI i f n)
    | none => none
  | _ :: _, [], _ => none
def opN (k : Nat) : List UInt8 := (nameS k).data.toList
def opF (k : Nat) : List UInt8 := (formS k).data.toList
/-- The op of a name: the first one from k on. -/
def fndS (w0 : List UInt8) : Nat → Nat → Option Nat
  | 0, _ => none
  | n + 1, k => if opN k = w0 then some k else fndS w0 n (k + 1)
def typeS (l : List UInt8) : Option Ins :=
  match fndS ((cutS 32 l).headD []) 23 0 with
  | none => none
  | some k => if (cutS 32 l).length = (opF k).length + 1 then goS (opF k) (cutS 32 l).tail ⟨k, 0, 0, 0, 0⟩ else none
theorem opF_isL : ∀ k : Fin 23, (opF k.val).all isL = true := by decide +kernel
theorem opF_len : ∀ k : Fin 23, (opF k.val).length ≤ 3 := by decide +kernel
end Go.Proofs.YtmbacegbcccdjaaDoor
