/-
  Layer 6: contexts, events, the program's machine as a thing of the law's own.
  Conditions: none. (My own text.)
-/
import Derived.Test.YtkpaeogjefjbfaaCda
import Derived.Test.YtkpaeogjefjbfaaSp5
import Derived.Test.YtkpaeogjefjbfaaCel
import Derived.Deep.RegionWith
namespace Go.Proofs.Ytkpaeogjefjbfaa
open Go.RowKit Spm
set_option linter.unusedVariables false
set_option linter.unusedSimpArgs false

structure Ctx where
  pc : Int
  tp : Int
  r : Nat → Int
structure Evt where
  k : Int
  n : Int
  a : Int
  b : Int
  f : Int
def upd (r : Nat → Int) (a : Nat) (v : Int) : Nat → Int := fun k => if k = a then v else r k
def Ctx.val (c : Ctx) : Value := .agg #[.int .i64 c.pc, .int .i64 c.tp, .int .i64 (c.r 0), .int .i64 (c.r 1), .int .i64 (c.r 2), .int .i64 (c.r 3), .int .i64 (c.r 4), .int .i64 (c.r 5), .int .i64 (c.r 6), .int .i64 (c.r 7), .int .i64 (c.r 8), .int .i64 (c.r 9), .int .i64 (c.r 10), .int .i64 (c.r 11), .int .i64 (c.r 12), .int .i64 (c.r 13), .int .i64 (c.r 14), .int .i64 (c.r 15)]
def Ctx.arr (c : Ctx) : Array Value := #[.int .i64 c.pc, .int .i64 c.tp, .int .i64 (c.r 0), .int .i64 (c.r 1), .int .i64 (c.r 2), .int .i64 (c.r 3), .int .i64 (c.r 4), .int .i64 (c.r 5), .int .i64 (c.r 6), .int .i64 (c.r 7), .int .i64 (c.r 8), .int .i64 (c.r 9), .int .i64 (c.r 10), .int .i64 (c.r 11), .int .i64 (c.r 12), .int .i64 (c.r 13), .int .i64 (c.r 14), .int .i64 (c.r 15)]
def Evt.val (e : Evt) : Value := .agg #[.int .i64 e.k, .int .i64 e.n, .int .i64 e.a, .int .i64 e.b, .int .i64 e.f]
def Evt.arr (e : Evt) : Array Value := #[.int .i64 e.k, .int .i64 e.n, .int .i64 e.a, .int .i64 e.b, .int .i64 e.f]
def mc (c : Ctx) (s : Nat) (e : Evt) : Array Value := #[.int .i64 c.pc, .int .i64 c.tp, .int .i64 (c.r 0), .int .i64 (c.r 1), .int .i64 (c.r 2), .int .i64 (c.r 3), .int .i64 (c.r 4), .int .i64 (c.r 5), .int .i64 (c.r 6), .int .i64 (c.r 7), .int .i64 (c.r 8), .int .i64 (c.r 9), .int .i64 (c.r 10), .int .i64 (c.r 11), .int .i64 (c.r 12), .int .i64 (c.r 13), .int .i64 (c.r 14), .int .i64 (c.r 15), .pointer (some ⟨s, 0, none⟩), .int .i64 e.k, .int .i64 e.n, .int .i64 e.a, .int .i64 e.b, .int .i64 e.f]
def ev0 : Evt := ⟨0, 0, 0, 0, 0⟩
def trapV (err : Int) : Evt := ⟨5, 0, 0, 0, err⟩

section
variable (c : Ctx) (s : Nat) (e : Evt)
theorem mc_set {a : Nat} (h : a < 16) (v : Int) : (mc c s e).setIfInBounds (2 + a) (.int .i64 v) = mc { c with r := upd c.r a v } s e := by
  obtain rfl | rfl | rfl | rfl | rfl | rfl | rfl | rfl | rfl | rfl | rfl | rfl | rfl | rfl | rfl | rfl : a = 0 ∨ a = 1 ∨ a = 2 ∨ a = 3 ∨ a = 4 ∨ a = 5 ∨ a = 6 ∨ a = 7 ∨ a = 8 ∨ a = 9 ∨ a = 10 ∨ a = 11 ∨ a = 12 ∨ a = 13 ∨ a = 14 ∨ a = 15 := by omega
  all_goals rfl
theorem mc_pc (v : Int) : (mc c s e).setIfInBounds 0 (.int .i64 v) = mc { c with pc := v } s e := rfl
theorem mc_reg {a : Nat} (h : a < 16) : (mc c s e)[2 + a]? = some (.int .i64 (c.r a)) := by
  obtain rfl | rfl | rfl | rfl | rfl | rfl | rfl | rfl | rfl | rfl | rfl | rfl | rfl | rfl | rfl | rfl : a = 0 ∨ a = 1 ∨ a = 2 ∨ a = 3 ∨ a = 4 ∨ a = 5 ∨ a = 6 ∨ a = 7 ∨ a = 8 ∨ a = 9 ∨ a = 10 ∨ a = 11 ∨ a = 12 ∨ a = 13 ∨ a = 14 ∨ a = 15 := by omega
  all_goals rfl
theorem ctx_reg {a : Nat} (h : a < 16) : c.arr[2 + a]? = some (.int .i64 (c.r a)) := by
  obtain rfl | rfl | rfl | rfl | rfl | rfl | rfl | rfl | rfl | rfl | rfl | rfl | rfl | rfl | rfl | rfl : a = 0 ∨ a = 1 ∨ a = 2 ∨ a = 3 ∨ a = 4 ∨ a = 5 ∨ a = 6 ∨ a = 7 ∨ a = 8 ∨ a = 9 ∨ a = 10 ∨ a = 11 ∨ a = 12 ∨ a = 13 ∨ a = 14 ∨ a = 15 := by omega
  all_goals rfl
theorem ctx_set {a : Nat} (h : a < 16) (v : Int) : c.arr.setIfInBounds (2 + a) (.int .i64 v) = Ctx.arr { c with r := upd c.r a v } := by
  obtain rfl | rfl | rfl | rfl | rfl | rfl | rfl | rfl | rfl | rfl | rfl | rfl | rfl | rfl | rfl | rfl : a = 0 ∨ a = 1 ∨ a = 2 ∨ a = 3 ∨ a = 4 ∨ a = 5 ∨ a = 6 ∨ a = 7 ∨ a = 8 ∨ a = 9 ∨ a = 10 ∨ a = 11 ∨ a = 12 ∨ a = 13 ∨ a = 14 ∨ a = 15 := by omega
  all_goals rfl
theorem mc_ev (e2 : Evt) : (((((mc c s e).setIfInBounds 19 (.int .i64 e2.k)).setIfInBounds 20 (.int .i64 e2.n)).setIfInBounds 21 (.int .i64 e2.a)).setIfInBounds 22 (.int .i64 e2.b)).setIfInBounds 23 (.int .i64 e2.f) = mc c s e2 := rfl
end

/-- The machine. -/
def Mc (g : Nat) (c : Ctx) (s : Nat) (e : Evt) : Res := Cel g 82 (mc c s e)
instance fr_mc (g : Nat) (c : Ctx) (s : Nat) (e : Evt) : Fr (Mc g c s e) := fr_cel _ _ _

section
variable {B : Nat} {w wr w' : World} {g s : Nat} {c : Ctx} {e : Evt} {L : List Rg} {Y : Res}
theorem Has.mpc [Fr Y] (h : Has B w wr (Star (Mc g c s e) Y)) (v : Int) : Has B w (wr.setCell ⟨g, 0, none⟩ (.int .i64 v)) (Star (Mc g { c with pc := v } s e) Y) := h.store 0 (.int .i64 v)
theorem Has.mset [Fr Y] (h : Has B w wr (Star (Mc g c s e) Y)) {a : Nat} (ha : a < 16) (v : Int) : Has B w (wr.setCell ⟨g, 2 + a, none⟩ (.int .i64 v)) (Star (Mc g { c with r := upd c.r a v } s e) Y) := by
  have h1 := h.store (2 + a) (.int .i64 v)
  rw [mc_set c s e ha v] at h1
  exact h1
theorem Has.mev [Fr Y] (h : Has B w wr (Star (Mc g c s e) Y)) (e2 : Evt) : Has B w (((((wr.setCell ⟨g, 19, none⟩ (.int .i64 e2.k)).setCell ⟨g, 20, none⟩ (.int .i64 e2.n)).setCell ⟨g, 21, none⟩ (.int .i64 e2.a)).setCell ⟨g, 22, none⟩ (.int .i64 e2.b)).setCell ⟨g, 23, none⟩ (.int .i64 e2.f)) (Star (Mc g c s e2) Y) :=
  ((((h.store 19 (.int .i64 e2.k)).store 20 (.int .i64 e2.n)).store 21 (.int .i64 e2.a)).store 22 (.int .i64 e2.b)).store 23 (.int .i64 e2.f)
theorem Has.mblk (h : Has B w wr (Star (Mc g c s e) Y)) : Blk wr g 82 (mc c s e) := h.cel

set_option maxRecDepth 100000 in
theorem trap_any [hY : Fr Y] (h : Has B w wr (Star (Mc g c s e) Y)) (err : Int) : Calls Try.prog 31 #[.pointer (some ⟨g, 0, none⟩), .int .i64 err] wr fun x w' => x = .returned (.bool (err != 0)) ∧ Has B w w' (Star (Mc g c s (if err = 0 then e else trapV err)) Y) := by
  have hb := h.mblk
  have f19 := hb.free 19
  have f20 := hb.free 20
  have f21 := hb.free 21
  have f22 := hb.free 22
  have f23 := hb.free 23
  have c19 : wr.cell? ⟨g, 19, none⟩ = some (.int .i64 e.k) := by rw [hb.cell]; rfl
  have c20 : wr.cell? ⟨g, 20, none⟩ = some (.int .i64 e.n) := by rw [hb.cell]; rfl
  have c21 : wr.cell? ⟨g, 21, none⟩ = some (.int .i64 e.a) := by rw [hb.cell]; rfl
  have c22 : wr.cell? ⟨g, 22, none⟩ = some (.int .i64 e.b) := by rw [hb.cell]; rfl
  have c23 : wr.cell? ⟨g, 23, none⟩ = some (.int .i64 e.f) := by rw [hb.cell]; rfl
  by_cases h0 : err = 0
  · subst h0
    have H := Lib.hid h
    clear h hb
    go_enter Try.func31, Try.ntmps31
    go_wp2
    go_ret
    exact ⟨rfl, by simpa using H.out⟩
  · have H := Lib.hid (h.mev (trapV err))
    have h1 : (err != 0) = true := bne_iff_ne.2 h0
    rw [h1]
    rw [if_neg h0]
    clear h hb
    go_enter Try.func31, Try.ntmps31
    go_wp2
    go_ret
    exact ⟨rfl, H.out⟩
set_option maxRecDepth 100000 in
theorem truth_any (b : Bool) (w : World) : Calls Try.prog 93 #[.bool b] w fun x w' => x = .returned (.int .i64 (if b = true then 1 else 0)) ∧ w = w' := by
  cases b
  all_goals
    go_enter Try.func93, Try.ntmps93
    go_wp2
    go_ret
    exact ⟨rfl, rfl⟩
end
end Go.Proofs.Ytkpaeogjefjbfaa
