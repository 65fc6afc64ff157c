/-
  A thing is picked out of what a law owns by its block's number: read, written, called.
  What a law owns, brought into an order of its own; the rest goes.
  Conditions: none. (My own text.)
-/
import Derived.Test.YtmbacegbcccdjaaDoorCrr

namespace Go.Proofs.YtmbacegbcccdjaaDoor
open Go.RowKit
set_option linter.unusedVariables false
set_option linter.unusedSimpArgs false

/-- Y holds X; the rest is R. -/
class Pick (X Y : Res) (R : outParam Res) : Prop where
  pick : ∀ {w : World} {F : Nat → Prop}, Y w F → Star X R w F
instance pick_here {X R : Res} : Pick X (Star X R) R := ⟨fun h => h⟩
instance pick_there {X Y R Z : Res} [h : Pick X Y R] : Pick X (Star Z Y) (Star Z R) := ⟨fun hy => Star.swap (Star.under (fun _ => h.pick) hy)⟩
/-- Y holds a block of cells g. -/
class PickC (g : Nat) (T : outParam TypeId) (cs : outParam (Array Value)) (Y : Res) (R : outParam Res) : Prop where
  pick : ∀ {w : World} {F : Nat → Prop}, Y w F → Star (Cel g T cs) R w F
instance pickc_here {g : Nat} {T : TypeId} {cs : Array Value} {R : Res} : PickC g T cs (Star (Cel g T cs) R) R := ⟨fun h => h⟩
instance pickc_there {g : Nat} {T : TypeId} {cs : Array Value} {Y R Z : Res} [h : PickC g T cs Y R] : PickC g T cs (Star Z Y) (Star Z R) := ⟨fun hy => Star.swap (Star.under (fun _ => h.pick) hy)⟩
/-- .. and what is left when its cells are others, in place. -/
class UpdC (g : Nat) (T : outParam TypeId) (cs : outParam (Array Value)) (cs' : Array Value) (Y : Res) (Y' : outParam Res) : Prop where
  old : ∀ {w : World} {F : Nat → Prop}, Y w F → F g ∧ Blk w g T cs
  row : ∀ {w : World} {F : Nat → Prop}, Y w F → Y' (w.setRow g cs') F
  cell : ∀ {w : World} {F : Nat → Prop} (k : Nat) (v : Value), cs' = cs.setIfInBounds k v → Y w F → Y' (w.setCell ⟨g, k, none⟩ v) F
theorem Blk.rowed {w : World} {g : Nat} {T : TypeId} {cs : Array Value} (h : Blk w g T cs) (cs' : Array Value) : Blk (w.setRow g cs') g T cs' := setRow_heap _ _ _ _ _ _ h
instance updc_here {g : Nat} {T : TypeId} {cs cs' : Array Value} {R : Res} [hR : Fr R] : UpdC g T cs cs' (Star (Cel g T cs) R) (Star (Cel g T cs') R) where
  old := fun ⟨F1, F2, h1, h2, hd, g1, g2⟩ => ⟨g1 g h1.2, h1.1⟩
  row := fun ⟨F1, F2, h1, h2, hd, g1, g2⟩ => ⟨F1, F2, ⟨h1.1.rowed cs', h1.2⟩, hR.keep h2 (fun k hk _ => setRow_other _ _ _ _ (fun e => hd g h1.2 (e ▸ hk))), hd, g1, g2⟩
  cell := fun k v e ⟨F1, F2, h1, h2, hd, g1, g2⟩ => ⟨F1, F2, ⟨e ▸ h1.1.set k v, h1.2⟩, hR.keep h2 (fun j hk _ => heap_setCell_other _ _ _ _ (fun e => hd g h1.2 (by have e' : j = g := e; rw [← e']; exact hk))), hd, g1, g2⟩
instance updc_there {g : Nat} {T : TypeId} {cs cs' : Array Value} {Y Y' Z : Res} [h : UpdC g T cs cs' Y Y'] [hZ : Fr Z] : UpdC g T cs cs' (Star Z Y) (Star Z Y') where
  old := fun ⟨F1, F2, h1, h2, hd, g1, g2⟩ => ⟨g2 g (h.old h2).1, (h.old h2).2⟩
  row := fun ⟨F1, F2, h1, h2, hd, g1, g2⟩ => ⟨F1, F2, hZ.keep h1 (fun k hk _ => setRow_other _ _ _ _ (fun e => hd k hk (e ▸ (h.old h2).1))), h.row h2, hd, g1, g2⟩
  cell := fun k v e ⟨F1, F2, h1, h2, hd, g1, g2⟩ => ⟨F1, F2, hZ.keep h1 (fun j hk _ => heap_setCell_other _ _ _ _ (fun e => hd j hk (by have e' : j = g := e; rw [e']; exact (h.old h2).1))), h.cell k v e h2, hd, g1, g2⟩

section
variable {B : Nat} {w wr w' : World} {X Y Y' R : Res} {T : TypeId} {cs cs' : Array Value}
theorem Has.pick (h : Has B w wr Y) (X : Res) [hp : Pick X Y R] : Has B w wr (Star X R) := h.imp fun _ => hp.pick
theorem Has.pickc (h : Has B w wr Y) (g : Nat) [hp : PickC g T cs Y R] : Has B w wr (Star (Cel g T cs) R) := h.imp fun _ => hp.pick
theorem Has.getc (h : Has B w wr Y) (g : Nat) [hp : PickC g T cs Y R] : Blk wr g T cs := (h.pickc g).cel
theorem Has.rowc (h : Has B w wr Y) (g : Nat) (cs' : Array Value) [hp : UpdC g T cs cs' Y Y'] : Has B w (wr.setRow g cs') Y' := by
  obtain ⟨F, h1, h2⟩ := h.own
  have hs : (wr.setRow g cs').heap.size = wr.heap.size := size_setRow _ _ _
  exact ⟨⟨F, hp.row h1, h2⟩, h.bel.trans ((keeps_setRow F wr g cs' (hp.old h1).1).below h.le h2), by rw [hs]; exact h.le⟩
theorem Has.cellc (h : Has B w wr Y) (g k : Nat) (v : Value) (cs' : Array Value) [hp : UpdC g T cs cs' Y Y'] (e : cs' = cs.setIfInBounds k v) : Has B w (wr.setCell ⟨g, k, none⟩ v) Y' := by
  obtain ⟨F, h1, h2⟩ := h.own
  have hs : (wr.setCell ⟨g, k, none⟩ v).heap.size = wr.heap.size := by simp [World.setCell]
  exact ⟨⟨F, hp.cell k v e h1, h2⟩, h.bel.setCell (p := ⟨g, k, none⟩) (h2 g (hp.old h1).1) _, by rw [hs]; exact h.le⟩
end

/-- Z stands at the end of Y. -/
class Tail (Z Y : Res) : Prop where
  tail : ∀ {w : World} {F : Nat → Prop}, Y w F → Z w F
instance tail_here {Z : Res} : Tail Z Z := ⟨fun h => h⟩
instance tail_there {X Y Z : Res} [hZ : Fr Z] [h : Tail Z Y] : Tail Z (Star X Y) := ⟨fun {w F} ⟨F1, F2, h1, h2, hd, g1, g2⟩ => hZ.mono (h.tail h2) (fun k hk _ => g2 k hk)⟩
section
variable {B : Nat} {w wr w' : World} {Y R : Res}
/-- A thing, and what came in beside it; what was made on the way goes. -/
theorem Has.back (h : Has B w wr Y) (X Z : Res) [hp : Pick X Y R] [ht : Tail Z R] : Has B w wr (Star X Z) := (h.imp fun _ => hp.pick).imp fun _ => Star.under fun _ => ht.tail
theorem Has.tail (h : Has B w wr Y) (Z : Res) [ht : Tail Z Y] : Has B w wr Z := h.imp fun _ => ht.tail
theorem Has.cellat {T : TypeId} {cs : Array Value} (h : Has B w wr Y) (g k : Nat) {v : Value} [hp : PickC g T cs Y R] (e : cs[k]? = some v) : wr.cell? ⟨g, k, none⟩ = some v := by rw [(h.getc g).cell]; exact e
theorem Has.liveat {T : TypeId} {cs : Array Value} (h : Has B w wr Y) (g k : Nat) [hp : PickC g T cs Y R] : wr.frozen? ⟨g, k, none⟩ = false := (h.getc g).free k
end

theorem results_cellT_row {P : Program} {fn : Func} {p q : Tmp} {ty : TypeId} (h : fn.results = #[.cell p ty, .tmp q]) (tmps : Array Value) (w : World) (g : Nat) (t : TypeId) (cs : Array Value) (d : TypeDesc)
    (hp : tmps.getD p undef = .pointer (some ⟨g, 0, none⟩)) (hg : w.heap[g]? = some (.cells cs t (0, 0))) (hu : P.underlying ty = some d) (hd : (match d with | .struct _ | .array _ _ => true | _ => false) = true) (hi : (P.info? ty).map (·.size) = some cs.size) (x : Value) (hx : tmps.getD q undef = x) :
    (results fn tmps).run P w = .ok (.tuple #[.agg cs, x]) w := by
  have hp' : tmps[p]?.getD undef = .pointer (some ⟨g, 0, none⟩) := by simpa using hp
  have hx' : tmps[q]?.getD undef = x := by simpa using hx
  simp [results, h, hp', hx', asAddr, run_loadVar_row w g t ty cs (0, 0) d hg hu hd hi]
theorem wpOp_call {P : Program} {ops : Array Oper} {o : Oper} {a : Go.Act} {Q : Exit → Go.Act → World → Prop} {i : Nat} {w : World} {K : Go.Act → World → Prop} (hi : ops[i]? = some o) (hgd : o.guard = none) (f : FuncId) (oa : Array Operand) (ats : Array TypeId)
    (ho : o.op = .call { callee := .value (.func f), args := oa, argTypes := ats }) (args : Array Value) (hrun : (execOp a.eval o).run P w = .ok (.enter f args) w) (h : Calls P f args w fun e w' => ∃ v, e = .returned v ∧ K (a.put o.dst v) w') : wpOp P ops Q i K a w := by
  unfold wpOp
  simp only [hi]
  rw [if_pos (by simp [Region.wanted, hgd])]
  refine .inl ?_
  unfold Oper.wp
  rw [hrun, Oper.upon_enter]
  refine h.mono fun e w'' hh => ?_
  obtain ⟨v, rfl, hk⟩ := hh
  exact hk

section
variable {P : Program} {ops : Array Oper} {S : World → Prop} {o : Oper} {a : Go.Act}
theorem yields_load_cell (hgd : o.guard = none) (ty : TypeId) (x : Operand) (ho : o.op = .load ty x) (g k : Nat) (hx : a.eval x = .pointer (some ⟨g, k, none⟩)) (v : Value)
    (hg : ∀ w, S w → w.cell? ⟨g, k, none⟩ = some v) (d : TypeDesc) (hu : P.underlying ty = some d) (hd : (match d with | .struct _ | .array _ _ => true | _ => false) = false) :
    YieldsIf P ops S o v a := .inl ⟨by simp [Region.wanted, hgd], fun w hS => by
  have hagg : (isAgg ty).run P w = .ok false w := by
    unfold isAgg
    rw [Sem.run_bind, run_underlying hu w]
    cases d <;> simp_all
  unfold execOp
  simp [ho, hx, Instr.loadAt, Instr.sureAddr, Sem.run_bind, loadVar, hagg, hg w hS]⟩
end

section
variable {P : Program} {ops : Array Oper} {o : Oper} {a : Go.Act} {Q : Exit → Go.Act → World → Prop}
theorem yields_convert {S : World → Prop} (hgd : o.guard = none) (src dst : TypeId) (x : Operand) (ho : o.op = .convert src dst x) (k k' : IntKind) (n : Int) (hx : a.eval x = .int k n) (hs : (P.underlying src).isSome = true) (hd : P.underlying dst = some (.int k')) (hw : k'.wrap n = n) :
    YieldsIf P ops S o (.int k' n) a := .inl ⟨by simp [Region.wanted, hgd], fun w _ => by
  have hk : P.intKind dst = k' := by simp [Program.intKind, hd]
  unfold execOp
  simp only [ho, hx, Sem.run_bind]
  rw [run_convert_int w src dst k n hs (by rw [hk]; exact hd), hk, hw]
  rfl⟩
theorem wpOp_run {i : Nat} {w w' : World} {K : Go.Act → World → Prop} {v : Value} (hi : ops[i]? = some o) (hgd : o.guard = none) (hrun : (execOp a.eval o).run P w = .ok (.value v) w') (h : K (a.put o.dst v) w') : wpOp P ops Q i K a w := by
  unfold wpOp
  simp only [hi]
  rw [if_pos (by simp [Region.wanted, hgd])]
  refine .inl ?_
  unfold Oper.wp
  rw [hrun, Oper.upon_value]
  exact h
end
section
variable {P : Program} {ops : Array Oper} {S : World → Prop} {o : Oper} {a : Go.Act} {Q : Exit → Go.Act → World → Prop}
theorem yields_index {t e : TypeId} {n : Nat} (hgd : o.guard = none) (x ix : Operand) (ho : o.op = .indexAddr t x ix) (g k j : Nat) (hx : a.eval x = .pointer (some ⟨g, k, none⟩)) (hi : a.eval ix = .int .i64 j)
    (hu : P.underlying t = some (.array n e)) (hs : (P.info? e).map (·.size) = some 1) (hj : j < n) : YieldsIf P ops S o (.pointer (some ⟨g, k + j, none⟩)) a := .inl ⟨by simp [Region.wanted, hgd], fun w _ => by
  have hn : P.arrayLen t = n := by simp [Program.arrayLen, hu]
  have he : P.elem t = e := by simp [Program.elem, hu]
  have hz : (sizeOf e).run P w = .ok 1 w := by
    cases hq : P.info? e with
    | none => simp [hq] at hs
    | some i =>
      have : i.size = 1 := by simpa [hq] using hs
      simp [sizeOf, typeInfo, hq, this]
  have h2 : (0 : Int) ≤ (j : Int) ∧ (j : Int) < (n : Int) := by omega
  unfold execOp
  simp only [ho, hx, hi, Sem.run_bind]
  rw [run_indexAt_array w t ⟨g, k, none⟩ .i64 j (by rw [hn, he]; exact hu), hn, he, if_pos h2, hz]
  simp [Addr.add]⟩
end

theorem Blk.st {w : World} {g k : Nat} {T : TypeId} {cs cs' : Array Value} (h : Blk w g T cs) (hk : g ≠ k) : Blk (w.setRow k cs') g T cs := (setRow_other _ _ _ _ hk).trans h

end Go.Proofs.YtmbacegbcccdjaaDoor

namespace Go.Proofs.YtmbacegbcccdjaaDoor
open Go.RowKit
set_option linter.unusedVariables false
set_option linter.unusedSimpArgs false

/-- Y holds all of X; the rest goes. -/
class Sub (X Y : Res) : Prop where
  sub : ∀ {w : World} {F : Nat → Prop}, Y w F → X w F
instance (priority := low) sub_tail {X Y : Res} [h : Tail X Y] : Sub X Y := ⟨h.tail⟩
instance sub_emp {Y : Res} : Sub Emp Y := ⟨fun _ => trivial⟩
instance sub_star {A X Y R : Res} [hp : Pick A Y R] [h : Sub X R] : Sub (Star A X) Y := ⟨fun hy => Star.under (fun _ => h.sub) (hp.pick hy)⟩
theorem Has.norm {B : Nat} {w wr : World} {Y : Res} (h : Has B w wr Y) (X : Res) [hs : Sub X Y] : Has B w wr X := h.imp fun _ => hs.sub

end Go.Proofs.YtmbacegbcccdjaaDoor
