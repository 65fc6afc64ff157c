/-
  A drawn region taken by hand where several operations may come first: each operation's law, its slot named by number.
  Conditions: none. (My own text.)
-/
import Derived.Test.YtmbacegbcccdjaaDoorPcm
import Derived.Test.YtmbacegbcccdjaaDoorPcn
namespace Go.Proofs.YtmbacegbcccdjaaDoor
open Go.RowKit Spm
set_option linter.unusedVariables false
set_option linter.unusedSimpArgs false

section
variable {P : Program} {ops : Array Oper} {o : Oper} {a : Go.Act} {Q : Exit → Go.Act → World → Prop}
theorem takeR {md : Region.Mode} {S : World → Prop} {i : Nat} {oi : Oper} {v : Value} {fuel : Nat} {listed : Array Bool} {w : World} (dst : Nat) (hi : ops[i]? = some oi) (hd : oi.dst = some dst)
    (hs : Region.noSelect ops = true) (hf : Region.free md ops listed i = true) (hr : (Region.ready md ops listed).contains i = true)
    (hQ : ∀ c (a : Go.Act) w, Q (.panic c) (a.put (some dst) v) w → Q (.panic c) a w) (hy : YieldsIf P ops S oi v a) (hS : S w)
    (h : wpAnyH P md ops Q S fuel (listed.setIfInBounds i true) (a.put (some dst) v) w) : wpAnyH P md ops Q S (fuel + 1) listed a w :=
  wpAnyH_take hi hs hf hr (fun c a w h => hQ c a w (hd ▸ h)) hy hS (hd ▸ h)
theorem opR_call {i : Nat} {w : World} {K : Go.Act → World → Prop} (dst : Nat) (hi : ops[i]? = some o) (hd : o.dst = some dst) (hw : Region.wanted o (yielded ops a.tmps) = true) (f : FuncId) (oa : Array Operand) (ats : Array TypeId)
    (ho : o.op = .call { callee := .value (.func f), args := oa, argTypes := ats }) (args : Array Value) (hrun : (execOp a.eval o).run P w = .ok (.enter f args) w) (h : Calls P f args w fun e w' => ∃ v, e = .returned v ∧ K (a.put (some dst) v) w') : wpOp P ops Q i K a w := by
  rw [← hd] at h
  unfold wpOp
  simp only [hi]
  rw [if_pos hw]
  refine .inl ?_
  unfold Oper.wp
  rw [hrun, Oper.upon_enter]
  refine h.mono fun e w'' hh => ?_
  obtain ⟨v, rfl, hk⟩ := hh
  exact hk
theorem opR_run {i : Nat} {w w' : World} {K : Go.Act → World → Prop} {v : Value} (dst : Nat) (hi : ops[i]? = some o) (hd : o.dst = some dst) (hgd : o.guard = none) (hrun : (execOp a.eval o).run P w = .ok (.value v) w') (h : K (a.put (some dst) v) w') : wpOp P ops Q i K a w :=
  wpOp_run hi hgd hrun (hd ▸ h)
theorem opR_store {i : Nat} {w : World} {K : Go.Act → World → Prop} (hi : ops[i]? = some o) (hd : o.dst = none) (hgd : o.guard = none) (ty : TypeId) (x y : Operand) (ho : o.op = .store ty x y)
    (g : Nat) (cells : Array Value) (hx : a.eval x = .pointer (some ⟨g, 0, none⟩)) (hy : a.eval y = .agg cells)
    (t : TypeId) (old : Array Value) (hg : w.heap[g]? = some (.cells old t (0, 0))) (hsz : (P.info? ty).map (·.size) = some cells.size)
    (hold : old.size = cells.size) (h1 : cells.all (·.oneCell') = true) (h : K a (w.setRow g cells)) : wpOp P ops Q i K a w :=
  wpOp_store_row hi hgd ty x y ho g cells hx hy t old hg hsz hold h1 (hd ▸ h)
theorem opR_part {i : Nat} {w : World} {K : Go.Act → World → Prop} (dst : Nat) (hi : ops[i]? = some o) (hd : o.dst = some dst) (hgd : o.guard = none) (ty : TypeId) (x : Operand) (ho : o.op = .load ty x) (g k : Nat) (hx : a.eval x = .pointer (some ⟨g, k, none⟩)) (cs : Array Value) (d : TypeDesc)
    (hg : ∀ j v, cs.toList[j]? = some v → w.cell? ⟨g, k + j, none⟩ = some v) (hu : P.underlying ty = some d) (hdd : (match d with | .struct _ | .array _ _ => true | _ => false) = true) (hi2 : (P.info? ty).map (·.size) = some cs.size)
    (h : K (a.put (some dst) (.agg cs)) w) : wpOp P ops Q i K a w :=
  opR_run dst hi hd hgd (by
    unfold execOp
    simp only [ho, hx, Instr.loadAt, Instr.sureAddr, Sem.run_bind, Sem.run_pure, Result.andThen_ok, run_loadVar_part w g k ty cs d hg hu hdd hi2]) h
end
end Go.Proofs.YtmbacegbcccdjaaDoor
