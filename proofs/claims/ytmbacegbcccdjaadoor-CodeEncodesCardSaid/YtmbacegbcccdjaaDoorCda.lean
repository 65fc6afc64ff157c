/-
  Layer 4: instructions, plain; whether one may be: the program's answer and the document's.
  Conditions: none. (My own text.)
-/
import Derived.Test.YtmbacegbcccdjaaDoorSp1
import Derived.Deep.RegionWith
import Derived.Lib.Bytealg
import Derived.Lib.Strings
namespace Go.Proofs.YtmbacegbcccdjaaDoor
open Go.RowKit
set_option linter.unusedVariables false
set_option linter.unusedSimpArgs false

/-- An instruction. -/
structure Ins where
  op : Int
  a : Int
  b : Int
  c : Int
  n : Int
def Ins.val (i : Ins) : Value := .agg #[.int .i64 i.op, .int .i64 i.a, .int .i64 i.b, .int .i64 i.c, .int .i64 i.n]
def Ins.cells (i : Ins) : List Value := [.int .i64 i.op, .int .i64 i.a, .int .i64 i.b, .int .i64 i.c, .int .i64 i.n]
def opT : List (ByteArray × ByteArray) := [(⟨#[104, 97, 108, 116]⟩, ⟨#[]⟩), (⟨#[109, 111, 118, 105]⟩, ⟨#[97, 110]⟩), (⟨#[109, 111, 118]⟩, ⟨#[97, 98]⟩), (⟨#[97, 100, 100]⟩, ⟨#[97, 98, 99]⟩), (⟨#[115, 117, 98]⟩, ⟨#[97, 98, 99]⟩), (⟨#[109, 117, 108]⟩, ⟨#[97, 98, 99]⟩), (⟨#[100, 105, 118]⟩, ⟨#[97, 98, 99]⟩), (⟨#[108, 101, 115, 115]⟩, ⟨#[97, 98, 99]⟩), (⟨#[115, 97, 109, 101]⟩, ⟨#[97, 98, 99]⟩), (⟨#[108, 100]⟩, ⟨#[97, 98, 110]⟩), (⟨#[115, 116]⟩, ⟨#[97, 98, 110]⟩), (⟨#[108, 100, 112]⟩, ⟨#[97, 110]⟩), (⟨#[108, 101, 97]⟩, ⟨#[97, 110]⟩), (⟨#[106, 109, 112]⟩, ⟨#[110]⟩), (⟨#[106, 122]⟩, ⟨#[97, 110]⟩), (⟨#[99, 97, 108, 108]⟩, ⟨#[110]⟩), (⟨#[99, 97, 108, 108, 114]⟩, ⟨#[97]⟩), (⟨#[106, 109, 112, 114]⟩, ⟨#[97]⟩), (⟨#[114, 101, 116]⟩, ⟨#[]⟩), (⟨#[111, 117, 116]⟩, ⟨#[97]⟩), (⟨#[116, 112]⟩, ⟨#[97]⟩), (⟨#[116, 108, 115]⟩, ⟨#[97, 98]⟩), (⟨#[98, 105, 110, 100]⟩, ⟨#[110]⟩)]
def nameS (op : Int) : ByteArray := if 0 ≤ op ∧ op < 23 then (opT.getD op.toNat (⟨#[]⟩, ⟨#[]⟩)).1 else ⟨#[]⟩
def formS (op : Int) : ByteArray := if 0 ≤ op ∧ op < 23 then (opT.getD op.toNat (⟨#[]⟩, ⟨#[]⟩)).2 else ⟨#[]⟩
def opOk (op : Int) : Bool := decide (0 ≤ op ∧ op < 23)
/-- The letters of a form: a, b, c, n. -/
def ltr (k : Nat) : Int := [97, 98, 99, 110].getD k 110
def prt (i : Ins) (k : Nat) : Int := [i.a, i.b, i.c, i.n].getD k i.n
def lowS (k : Nat) : Int := if k = 3 then -2147483648 else 0
def highS (k : Nat) : Int := if k = 3 then 2147483647 else 15
def hasL (s : ByteArray) (c : Int) : Bool := decide (0 ≤ Lib.indexByte s.data.toList c.toNat.toUInt8)
def okL (i : Ins) (k : Nat) : Bool := if hasL (formS i.op) (ltr k) = true then decide (lowS k ≤ prt i k ∧ prt i k ≤ highS k) else decide (prt i k = 0)
def mayS (i : Ins) : Bool := opOk i.op && okL i 0 && okL i 1 && okL i 2 && okL i 3

theorem form_get (n : Nat) (h : n < 23) : ∃ nm fm, opT[n]? = some (nm, fm) ∧ nameS n = nm ∧ formS n = fm := by
  have hl : opT.length = 23 := rfl
  refine ⟨(opT[n]'(by omega)).1, (opT[n]'(by omega)).2, List.getElem?_eq_getElem _, ?_, ?_⟩
  · unfold nameS
    rw [if_pos (by omega), Int.toNat_natCast, List.getD_eq_getElem?_getD, List.getElem?_eq_getElem (by omega)]
    rfl
  · unfold formS
    rw [if_pos (by omega), Int.toNat_natCast, List.getD_eq_getElem?_getD, List.getElem?_eq_getElem (by omega)]
    rfl
def shA : Array Value := (opT.flatMap fun p => [.string p.1, .string p.2]).toArray
theorem shA_form (n : Nat) (h : n < 23) : shA[n * 2 + 1]? = some (.string (formS n)) := by
  obtain rfl | rfl | rfl | rfl | rfl | rfl | rfl | rfl | rfl | rfl | rfl | rfl | rfl | rfl | rfl | rfl | rfl | rfl | rfl | rfl | rfl | rfl | rfl : n = 0 ∨ n = 1 ∨ n = 2 ∨ n = 3 ∨ n = 4 ∨ n = 5 ∨ n = 6 ∨ n = 7 ∨ n = 8 ∨ n = 9 ∨ n = 10 ∨ n = 11 ∨ n = 12 ∨ n = 13 ∨ n = 14 ∨ n = 15 ∨ n = 16 ∨ n = 17 ∨ n = 18 ∨ n = 19 ∨ n = 20 ∨ n = 21 ∨ n = 22 := by omega
  all_goals rfl

theorem ltr_cases {k : Nat} (h : k < 4) : k = 0 ∨ k = 1 ∨ k = 2 ∨ k = 3 := by omega
theorem may_of {i : Ins} (h : 0 ≤ i.op ∧ i.op < 23) (hk : ∀ k, k < 4 → okL i k = true) : mayS i = true := by
  unfold mayS opOk
  rw [hk 0 (by decide), hk 1 (by decide), hk 2 (by decide), hk 3 (by decide)]
  simp [h]
theorem may_not {i : Ins} {k : Nat} (hk : k < 4) (h : okL i k = false) : mayS i = false := by
  unfold mayS
  obtain rfl | rfl | rfl | rfl := ltr_cases hk <;> rw [h] <;> simp
theorem may_op {i : Ins} (h : ¬ (0 ≤ i.op ∧ i.op < 23)) : mayS i = false := by
  unfold mayS opOk
  simp [h]

/-! ### The program -/
set_option maxRecDepth 100000 in
set_option maxHeartbeats 4000000 in
theorem shapes_any (w : World) : Calls Tryd.prog 33 #[] w fun e w' => e = .returned (.slice (some ⟨w.heap.size, 0, none⟩) 23 23) ∧ Blk w' w.heap.size 66 shA ∧ Below w.heap.size w w' := by
  go_enter Tryd.func33, Tryd.ntmps33
  go_wp2
  go_ret
  exact ⟨rfl, Blk.new _ _ _, (Below.refl _ _).alloc (Nat.le_refl _) _⟩

set_option maxRecDepth 100000 in
theorem field_any (g k : Nat) (hk : k < 4) (w : World) : Calls Tryd.prog 37 #[.pointer (some ⟨g, 0, none⟩), .int .u8 (ltr k)] w fun e w' => e = .returned (.pointer (some ⟨g, 1 + k, none⟩)) ∧ w = w' := by
  obtain rfl | rfl | rfl | rfl := ltr_cases hk
  all_goals
    simp only [ltr, List.getD_cons_zero, List.getD_cons_succ]
    go_enter Tryd.func37, Tryd.ntmps37
    go_wp2
    go_ret
    exact ⟨rfl, rfl⟩
set_option maxRecDepth 100000 in
theorem most_any (k : Nat) (hk : k < 4) (w : World) : Calls Tryd.prog 40 #[.int .u8 (ltr k)] w fun e w' => e = .returned (.tuple #[.int .i64 (lowS k), .int .i64 (highS k)]) ∧ w = w' := by
  obtain rfl | rfl | rfl | rfl := ltr_cases hk
  all_goals
    simp only [ltr, List.getD_cons_zero, List.getD_cons_succ]
    go_enter Tryd.func40, Tryd.ntmps40
    go_wp2
    go_ret2
    exact ⟨rfl, rfl⟩
set_option maxRecDepth 100000 in
theorem cIndexByte_any (s : ByteArray) (c : Int) (w : World) :
    Calls Tryd.prog 41 #[.string s, .int .u8 c] w fun e w' => e = .returned (.int .i64 (Lib.indexByte s.data.toList c.toNat.toUInt8)) ∧ w = w' := by
  have C1 : ∀ w : World, Calls Tryd.prog 53 #[.string s, .int .u8 c] w fun e w' => e = .returned (.int .i64 (Lib.indexByte s.data.toList c.toNat.toUInt8)) ∧ w = w' := fun w => by
    go_enter Tryd.func53, Tryd.ntmps53
    go_wp2
    rw [run_callFunc_extern Tryd.func61 (by kernel_rfl) (by kernel_rfl) (by kernel_rfl) (e := Extern.BytealgIndexByte.indexByte) (by kernel_rfl), Lib.run_indexByteString]
    simp only [Result.andThen]
    rw [Oper.upon_value]
    go_wp2
    go_ret
    exact ⟨rfl, rfl⟩
  have C2 := Lib.hid C1
  clear C1
  go_enter Tryd.func41, Tryd.ntmps41
  go_wp2_with fail
  refine (C2.out _).mono ?_
  rintro e w1 ⟨rfl, rfl⟩
  go_wp2
  go_ret
  exact ⟨rfl, rfl⟩
end Go.Proofs.YtmbacegbcccdjaaDoor
