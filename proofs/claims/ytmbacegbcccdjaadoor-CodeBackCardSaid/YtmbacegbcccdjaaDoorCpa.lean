/-
  Layer 6: contexts, events, the program's machine as a thing of the law's own.
  Conditions: none. (My own text.)
-/
import Derived.Test.YtmbacegbcccdjaaDoorCda
import Derived.Test.YtmbacegbcccdjaaDoorSp5
import Derived.Test.YtmbacegbcccdjaaDoorCel
import Derived.Deep.RegionWith
namespace Go.Proofs.YtmbacegbcccdjaaDoor
open Go.RowKit Spm
set_option linter.unusedVariables false
set_option linter.unusedSimpArgs false

structure Ctx where
  pc : Int
  tp : Int
  r : Nat → Int
structure Evt where
  k : Int
  n : Int
  a : Int
  b : Int
  f : Int
def upd (r : Nat → Int) (a : Nat) (v : Int) : Nat → Int := fun k => if k = a then v else r k
def Ctx.val (c : Ctx) : Value := .agg #[.int .i64 c.pc, .int .i64 c.tp, .int .i64 (c.r 0), .int .i64 (c.r 1), .int .i64 (c.r 2), .int .i64 (c.r 3), .int .i64 (c.r 4), .int .i64 (c.r 5), .int .i64 (c.r 6), .int .i64 (c.r 7), .int .i64 (c.r 8), .int .i64 (c.r 9), .int .i64 (c.r 10), .int .i64 (c.r 11), .int .i64 (c.r 12), .int .i64 (c.r 13), .int .i64 (c.r 14), .int .i64 (c.r 15)]
def Ctx.arr (c : Ctx) : Array Value := #[.int .i64 c.pc, .int .i64 c.tp, .int .i64 (c.r 0), .int .i64 (c.r 1), .int .i64 (c.r 2), .int .i64 (c.r 3), .int .i64 (c.r 4), .int .i64 (c.r 5), .int .i64 (c.r 6), .int .i64 (c.r 7), .int .i64 (c.r 8), .int .i64 (c.r 9), .int .i64 (c.r 10), .int .i64 (c.r 11), .int .i64 (c.r 12), .int .i64 (c.r 13), .int .i64 (c.r 14), .int .i64 (c.r 15)]
def Evt.val (e : Evt) : Value := .agg #[.int .i64 e.k, .int .i64 e.n, .int .i64 e.a, .int .i64 e.b, .int .i64 e.f]
def Evt.arr (e : Evt) : Array Value := #[.int .i64 e.k, .int .i64 e.n, .int .i64 e.a, .int .i64 e.b, .int .i64 e.f]
def mc (c : Ctx) (s : Nat) (e : Evt) : Array Value := #[.int .i64 c.pc, .int .i64 c.tp, .int .i64 (c.r 0), .int .i64 (c.r 1), .int .i64 (c.r 2), .int .i64 (c.r 3), .int .i64 (c.r 4), .int .i64 (c.r 5), .int .i64 (c.r 6), .int .i64 (c.r 7), .int .i64 (c.r 8), .int .i64 (c.r 9), .int .i64 (c.r 10), .int .i64 (c.r 11), .int .i64 (c.r 12), .int .i64 (c.r 13), .int .i64 (c.r 14), .int .i64 (c.r 15), .pointer (some ⟨s, 0, none⟩), .int .i64 e.k, .int .i64 e.n, .int .i64 e.a, .int .i64 e.b, .int .i64 e.f]
def ev0 : Evt := ⟨0, 0, 0, 0, 0⟩
def trapV (err : Int) : Evt := ⟨5, 0, 0, 0, err⟩

section
variable (c : Ctx) (s : Nat) (e : Evt)
theorem mc_set {a : Nat} (h : a < 16) (v : Int) : (mc c s e).setIfInBounds (2 + a) (.int .i64 v) = mc { c with r := upd c.r a v } s e := by
  obtain rfl | rfl | rfl | rfl | rfl | rfl | rfl | rfl | rfl | rfl | rfl | rfl | rfl | rfl | rfl | rfl : a = 0 ∨ a = 1 ∨ a = 2 ∨ a = 3 ∨ a = 4 ∨ a = 5 ∨ a = 6 ∨ a = 7 ∨ a = 8 ∨ a = 9 ∨ a = 10 ∨ a = 11 ∨ a = 12 ∨ a = 13 ∨ a = 14 ∨ a = 15 := by omega
  all_goals rfl
theorem mc_pc (v : Int) : (mc c s e).setIfInBounds 0 (.int .i64 v) = mc { c with pc := v } s e := rfl
theorem mc_reg {a : Nat} (h : a < 16) : (mc c s e)[2 + a]? = some (.int .i64 (c.r a)) := by
  obtain rfl | rfl | rfl | rfl | rfl | rfl | rfl | rfl | rfl | rfl | rfl | rfl | rfl | rfl | rfl | rfl : a = 0 ∨ a = 1 ∨ a = 2 ∨ a = 3 ∨ a = 4 ∨ a = 5 ∨ a = 6 ∨ a = 7 ∨ a = 8 ∨ a = 9 ∨ a = 10 ∨ a = 11 ∨ a = 12 ∨ a = 13 ∨ a = 14 ∨ a = 15 := by omega
  all_goals rfl
theorem ctx_reg {a : Nat} (h : a < 16) : c.arr[2 + a]? = some (.int .i64 (c.r a)) := by
  obtain rfl | rfl | rfl | rfl | rfl | rfl | rfl | rfl | rfl | rfl | rfl | rfl | rfl | rfl | rfl | rfl : a = 0 ∨ a = 1 ∨ a = 2 ∨ a = 3 ∨ a = 4 ∨ a = 5 ∨ a = 6 ∨ a = 7 ∨ a = 8 ∨ a = 9 ∨ a = 10 ∨ a = 11 ∨ a = 12 ∨ a = 13 ∨ a = 14 ∨ a = 15 := by omega
  all_goals rfl
theorem ctx_set {a : Nat} (h : a < 16) (v : Int) : c.arr.setIfInBounds (2 + a) (.int .i64 v) = Ctx.arr { c with r := upd c.r a v } := by
  obtain rfl | rfl | rfl | rfl | rfl | rfl | rfl | rfl | rfl | rfl | rfl | rfl | rfl | rfl | rfl | rfl : a = 0 ∨ a = 1 ∨ a = 2 ∨ a = 3 ∨ a = 4 ∨ a = 5 ∨ a = 6 ∨ a = 7 ∨ a = 8 ∨ a = 9 ∨ a = 10 ∨ a = 11 ∨ a = 12 ∨ a = 13 ∨ a = 14 ∨ a = 15 := by omega
  all_goals rfl
theorem mc_ev (e2 : Evt) : (((((mc c s e).setIfInBounds 19 (.int .i64 e2.k)).setIfInBounds 20 (.int .i64 e2.n)).setIfInBounds 21 (.int .i64 e2.a)).setIfInBounds 22 (.int .i64 e2.b)).setIfInBounds 23 (.int .i64 e2.f) = mc c s e2 := rfl
end

section
variable {B : Nat} {w wr w' : World} {g s : Nat} {c : Ctx} {e : Evt} {L : List Rg} {Y : Res}
end
end Go.Proofs.YtmbacegbcccdjaaDoor
