/-
  Laws for a drawn region that reads what stands, and calls what only makes memory; by hand.
  Conditions: none. (My own text.)
-/
import Derived.Test.YtlkelfaokbdddaaIma
namespace Go.Proofs.Ytlkelfaokbdddaa
open Go.RowKit Spm
set_option linter.unusedVariables false
set_option linter.unusedSimpArgs false

section
variable {P : Program} {ops : Array Oper} {o : Oper} {a : Go.Act} {Q : Exit → Go.Act → World → Prop} {W : World}
abbrev SB (W : World) : World → Prop := fun X => Below W.heap.size W X
theorem below_cellS {W X : World} (h : Below W.heap.size W X) {p : Addr} {v : Value} (c : W.cell? p = some v) : X.cell? p = some v := (h.cell (World.block_lt_of_cell? _ _ c)).trans c
theorem yS_pure {v : Value} (hw : Region.wanted o (yielded ops a.tmps) = true) (h : ∀ w, (execOp a.eval o).run P w = .ok (.value v) w) : YieldsIf P ops (SB W) o v a := .inl ⟨hw, fun w _ => h w⟩
theorem yS_cell (hw : Region.wanted o (yielded ops a.tmps) = true) (ty : TypeId) (x : Operand) (ho : o.op = .load ty x) (g k : Nat) (hx : a.eval x = .pointer (some ⟨g, k, none⟩)) (v : Value)
    (hg : W.cell? ⟨g, k, none⟩ = some v) (d : TypeDesc) (hu : P.underlying ty = some d) (hd : (match d with | .struct _ | .array _ _ => true | _ => false) = false) :
    YieldsIf P ops (SB W) o v a := .inl ⟨hw, fun w hS => by
  have hagg : (isAgg ty).run P w = .ok false w := by
    unfold isAgg
    rw [Sem.run_bind, run_underlying hu w]
    cases d <;> simp_all
  unfold execOp
  simp [ho, hx, Instr.loadAt, Instr.sureAddr, Sem.run_bind, loadVar, hagg, below_cellS hS hg]⟩
theorem yS_row (hw : Region.wanted o (yielded ops a.tmps) = true) (ty : TypeId) (x : Operand) (ho : o.op = .load ty x) (g : Nat) (hx : a.eval x = .pointer (some ⟨g, 0, none⟩)) (t : TypeId) (cs : Array Value) (d : TypeDesc)
    (hg : Blk W g t cs) (hu : P.underlying ty = some d) (hd : (match d with | .struct _ | .array _ _ => true | _ => false) = true) (hi : (P.info? ty).map (·.size) = some cs.size) :
    YieldsIf P ops (SB W) o (.agg cs) a := .inl ⟨hw, fun w hS => by
  have hb : w.heap[g]? = some (.cells cs t (0, 0)) := (hS.block g hg.lt).trans hg
  unfold execOp
  simp only [ho, hx, Instr.loadAt, Instr.sureAddr, Sem.run_bind, Sem.run_pure, Result.andThen_ok, run_loadVar_row w g t ty cs (0, 0) d hb hu hd hi]⟩
theorem yS_part (hw : Region.wanted o (yielded ops a.tmps) = true) (ty : TypeId) (x : Operand) (ho : o.op = .load ty x) (g k : Nat) (hx : a.eval x = .pointer (some ⟨g, k, none⟩)) (cs : Array Value) (d : TypeDesc)
    (hg : ∀ j v, cs.toList[j]? = some v → W.cell? ⟨g, k + j, none⟩ = some v) (hu : P.underlying ty = some d) (hd : (match d with | .struct _ | .array _ _ => true | _ => false) = true) (hi : (P.info? ty).map (·.size) = some cs.size) :
    YieldsIf P ops (SB W) o (.agg cs) a := .inl ⟨hw, fun w hS => by
  unfold execOp
  simp only [ho, hx, Instr.loadAt, Instr.sureAddr, Sem.run_bind, Sem.run_pure, Result.andThen_ok, run_loadVar_part w g k ty cs d (fun j v hv => below_cellS hS (hg j v hv)) hu hd hi]⟩
theorem yS_sl {t e : TypeId} (hw : Region.wanted o (yielded ops a.tmps) = true) (x ix : Operand) (ho : o.op = .indexAddr t x ix) (g k len cap j s : Nat) (hx : a.eval x = .slice (some ⟨g, k, none⟩) len cap) (hi : a.eval ix = .int .i64 j)
    (hu : P.underlying t = some (.slice e)) (hs : (P.info? e).map (·.size) = some s) (hj : j < len) : YieldsIf P ops (SB W) o (.pointer (some ⟨g, k + j * s, none⟩)) a := .inl ⟨hw, fun w _ => by
  have he : P.elem t = e := by simp [Program.elem, hu]
  have hz : (sizeOf e).run P w = .ok s w := by
    cases hq : P.info? e with
    | none => simp [hq] at hs
    | some i =>
      have : i.size = s := by simpa [hq] using hs
      simp [sizeOf, typeInfo, hq, this]
  have h2 : (0 : Int) ≤ (j : Int) ∧ (j : Int) < (len : Int) := by omega
  unfold execOp
  simp only [ho, hx, hi, Sem.run_bind]
  rw [run_indexAt_slice w t ⟨g, k, none⟩ len cap .i64 j (by rw [he]; exact hu), he, if_pos h2, hz]
  simp [Addr.add]⟩
theorem takeD {md : Region.Mode} {S : World → Prop} {i : Nat} {oi : Oper} {v : Value} {fuel : Nat} {listed : Array Bool} {w : World} (dst : Nat) (hi : ops[i]? = some oi) (hd : oi.dst = some dst)
    (hs : Region.noSelect ops = true) (hf : Region.free md ops listed i = true) (hr : (Region.ready md ops listed).contains i = true)
    (hQ : ∀ c (a : Go.Act) w, Q (.panic c) (a.put (some dst) v) w → Q (.panic c) a w) (hy : YieldsIf P ops S oi v a) (hS : S w)
    (h : wpAnyH P md ops Q S fuel (listed.setIfInBounds i true) (a.put (some dst) v) w) : wpAnyH P md ops Q S (fuel + 1) listed a w :=
  wpAnyH_take hi hs hf hr (fun c a w h => hQ c a w (hd ▸ h)) hy hS (hd ▸ h)
theorem wpOpS_call {i : Nat} {w : World} {K : Go.Act → World → Prop} (dst : Nat) (hi : ops[i]? = some o) (hd : o.dst = some dst) (hw : Region.wanted o (yielded ops a.tmps) = true) (f : FuncId) (oa : Array Operand) (ats : Array TypeId)
    (ho : o.op = .call { callee := .value (.func f), args := oa, argTypes := ats }) (args : Array Value) (hrun : (execOp a.eval o).run P w = .ok (.enter f args) w) (h : Calls P f args w fun e w' => ∃ v, e = .returned v ∧ K (a.put (some dst) v) w') : wpOp P ops Q i K a w := by
  rw [← hd] at h
  unfold wpOp
  simp only [hi]
  rw [if_pos hw]
  refine .inl ?_
  unfold Oper.wp
  rw [hrun, Oper.upon_enter]
  refine h.mono fun e w'' hh => ?_
  obtain ⟨v, rfl, hk⟩ := hh
  exact hk
theorem callD {md : Region.Mode} {S : World → Prop} {i : Nat} {fuel : Nat} {listed : Array Bool} {w : World} (dst : Nat) (hr : Region.ready md ops listed = [i]) (hi : ops[i]? = some o) (hd : o.dst = some dst) (hw : Region.wanted o (yielded ops a.tmps) = true)
    (f : FuncId) (oa : Array Operand) (ats : Array TypeId) (ho : o.op = .call { callee := .value (.func f), args := oa, argTypes := ats }) (args : Array Value) (hrun : (execOp a.eval o).run P w = .ok (.enter f args) w)
    (h : Calls P f args w fun e w' => ∃ v, e = .returned v ∧ S w' ∧ wpAnyH P md ops Q S fuel (listed.setIfInBounds i true) (a.put (some dst) v) w') : wpAnyH P md ops Q S (fuel + 1) listed a w :=
  wpAnyH_all hr (by simp) (fun j hj => by
    obtain rfl : j = i := by simpa using hj
    exact wpOpS_call dst hi hd hw f oa ats ho args hrun h)
end
/-- It answers some number, and leaves what was there. -/
def IntE (w : World) (e : Ending) (w' : World) : Prop := (∃ n, e = .returned (.int .i64 n)) ∧ Below w.heap.size w w'
theorem run_val {α : Type} {w : World} {r : Result α} {x y : α} (h : r = .ok x w) (e : x = y) : r = .ok y w := e ▸ h
end Go.Proofs.Ytlkelfaokbdddaa
