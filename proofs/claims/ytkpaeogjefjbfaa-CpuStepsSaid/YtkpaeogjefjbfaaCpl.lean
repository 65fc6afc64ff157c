/-
  Layer 6: a step, plain; what its walk leans on.
  Conditions: none. (My own text.)
-/
import Derived.Test.YtkpaeogjefjbfaaCpi
import Derived.Test.YtkpaeogjefjbfaaCdf
import Derived.Test.YtkpaeogjefjbfaaCrr
import Derived.Test.YtkpaeogjefjbfaaRf1
import Derived.Test.YtkpaeogjefjbfaaSp6
import Derived.Laws.Rows
import Derived.Laws.Tables
import Derived.StillTailTactics
import Derived.Deep.RegionHeld3
namespace Go.Proofs.Ytkpaeogjefjbfaa
open Go.RowKit Spm
set_option linter.unusedVariables false
set_option linter.unusedSimpArgs false

structure CtxOk (c : Ctx) : Prop where
  pc : I64 c.pc
  tp : I64 c.tp
  r : ∀ k, I64 (c.r k)

def stepS (cx : Ctx) (L : List Rg) : Ctx × Evt × List Rg :=
  if cx.pc = 0 then (cx, ⟨1, 0, 0, 0, 0⟩, L) else
  if (getS L cx.pc 8 4).2 ≠ 0 then (cx, trapV (getS L cx.pc 8 4).2, L) else
  if mayS (insK (getS L cx.pc 8 4).1 0) = false then (cx, trapV 40, L) else
  if (actS cx L (insK (getS L cx.pc 8 4).1 0) (wrap64 (cx.pc + 8))).2.1.k = 5 then (cx, (actS cx L (insK (getS L cx.pc 8 4).1 0) (wrap64 (cx.pc + 8))).2.1, (actS cx L (insK (getS L cx.pc 8 4).1 0) (wrap64 (cx.pc + 8))).2.2)
  else actS cx L (insK (getS L cx.pc 8 4).1 0) (wrap64 (cx.pc + 8))

theorem Has.setrow {B : Nat} {w wr : World} {g : Nat} {T : TypeId} {cs : Array Value} {Y : Res} [Fr Y] (h : Has B w wr (Star (Cel g T cs) Y)) (cs' : Array Value) : Has B w (wr.setRow g cs') (Star (Cel g T cs') Y) :=
  h.turn fun F ⟨h1, h2⟩ => ⟨⟨setRow_heap _ _ _ _ _ _ h1, .inl h2⟩, keeps_setRow F wr g cs' h2⟩

theorem results_cell2_row {P : Program} {fn : Func} {p u : Tmp} {ty uy : TypeId} (h : fn.results = #[.cell p ty, .cell u uy]) (tmps : Array Value) (w : World) (g k : Nat) (t v : TypeId) (cs ds : Array Value) (d e : TypeDesc)
    (hp : tmps.getD p undef = .pointer (some ⟨g, 0, none⟩)) (hg : w.heap[g]? = some (.cells cs t (0, 0))) (hu : P.underlying ty = some d) (hd : (match d with | .struct _ | .array _ _ => true | _ => false) = true) (hi : (P.info? ty).map (·.size) = some cs.size)
    (hq : tmps.getD u undef = .pointer (some ⟨k, 0, none⟩)) (hk : w.heap[k]? = some (.cells ds v (0, 0))) (hv : P.underlying uy = some e) (he : (match e with | .struct _ | .array _ _ => true | _ => false) = true) (hj : (P.info? uy).map (·.size) = some ds.size) :
    (results fn tmps).run P w = .ok (.tuple #[.agg cs, .agg ds]) w := by
  have hp' : tmps[p]?.getD undef = .pointer (some ⟨g, 0, none⟩) := by simpa using hp
  have hq' : tmps[u]?.getD undef = .pointer (some ⟨k, 0, none⟩) := by simpa using hq
  simp [results, h, hp', hq', asAddr, run_loadVar_row w g t ty cs (0, 0) d hg hu hd hi, run_loadVar_row w k v uy ds (0, 0) e hk hv he hj]

theorem get_len8 {L : List Rg} (hL : Ok L) {x p : Int} (h : (getS L x 8 p).2 = 0) : (getS L x 8 p).1.length = 8 := by
  rw [get_rang] at h
  obtain ⟨_, _, _, r, hr, hin, hn, hg⟩ := rang_ok h
  rw [hg]
  have hro := hL.each r (List.mem_of_getElem? hr)
  obtain ⟨i1, i2⟩ := inside_iff hin
  have := hro.len
  rw [List.length_take, List.length_drop]
  omega
theorem Has.ne {B : Nat} {w wr : World} {g k : Nat} {T U : TypeId} {cs ds : Array Value} {Y : Res} (h : Has B w wr (Star (Cel g T cs) (Star (Cel k U ds) Y))) : g ≠ k := by
  obtain ⟨F, ⟨F1, F2, h1, ⟨E1, E2, h2, _, _, g3, _⟩, hd, _, _⟩, _⟩ := h.own
  exact fun e => hd g h1.2 (g3 g (by rw [e]; exact h2.2))
theorem mc_evt (c : Ctx) (s : Nat) (e : Evt) (j : Nat) (v : Value) (h : e.arr.toList[j]? = some v) : (mc c s e)[19 + j]? = some v := by
  match j, h with
  | 0, h => simpa [Evt.arr, mc] using h
  | 1, h => simpa [Evt.arr, mc] using h
  | 2, h => simpa [Evt.arr, mc] using h
  | 3, h => simpa [Evt.arr, mc] using h
  | 4, h => simpa [Evt.arr, mc] using h
  | j + 5, h => simp [Evt.arr] at h
theorem mc_ctx (c : Ctx) (s : Nat) (e : Evt) (j : Nat) (v : Value) (h : c.arr.toList[j]? = some v) : (mc c s e)[0 + j]? = some v := by
  have hj : j < 18 := (List.getElem?_eq_some_iff.1 h).1
  obtain rfl | rfl | rfl | rfl | rfl | rfl | rfl | rfl | rfl | rfl | rfl | rfl | rfl | rfl | rfl | rfl | rfl | rfl : j = 0 ∨ j = 1 ∨ j = 2 ∨ j = 3 ∨ j = 4 ∨ j = 5 ∨ j = 6 ∨ j = 7 ∨ j = 8 ∨ j = 9 ∨ j = 10 ∨ j = 11 ∨ j = 12 ∨ j = 13 ∨ j = 14 ∨ j = 15 ∨ j = 16 ∨ j = 17 := by omega
  all_goals simpa [Ctx.arr, mc] using h

section
variable {cx : Ctx} {L : List Rg}
/-- A run of at most m steps: n stand behind it. -/
def runG (cx : Ctx) (L : List Rg) (n : Int) : Nat → Ctx × Evt × Int × List Rg
  | 0 => (cx, ⟨if cx.pc = 0 then 1 else 6, 0, 0, 0, 0⟩, n, L)
  | m + 1 =>
    if (stepS cx L).2.1.k = 1 ∨ (stepS cx L).2.1.k = 5 then ((stepS cx L).1, (stepS cx L).2.1, n, (stepS cx L).2.2) else
    if (stepS cx L).2.1.k = 0 then runG (stepS cx L).1 (stepS cx L).2.2 (n + 1) m else
    ((stepS cx L).1, (stepS cx L).2.1, n + 1, (stepS cx L).2.2)
def runS (cx : Ctx) (L : List Rg) (most : Int) : Ctx × Evt × Int × List Rg := runG cx L 0 most.toNat
end
end Go.Proofs.Ytkpaeogjefjbfaa
