/-
  Layer 4: CodeEncodes, whatever its arguments: the frame: the statement and its card.
  Conditions: none. (My own text; printed by gen_encf.py.)
-/
import Derived.Test.YtmbacegbcccdjaaDoorKnz
import Derived.Test.YtmbacegbcccdjaaDoorKfr
import Derived.Test.YtmbacegbcccdjaaDoorCards
import Derived.Test.YtmbacegbcccdjaaDoorTie
import Derived.Deep.DeepHandedRow
import Derived.Deep.DeepWitnessRowRef
import Derived.Lib.LaidTab
import Derived.Stop.LaidErr
import Derived.Shelf.Vars
namespace Go.Proofs.YtmbacegbcccdjaaDoor
open Go.ChangeShapes Go.WideShapes Go.ChangeAt Go.RowKit Go.Deep Spm
open Go.ChangeMaps (open_string)
set_option linter.unusedVariables false
set_option linter.unusedSimpArgs false
set_option maxRecDepth 100000

namespace codeEncF
open code04
theorem rows_weight {H : Type} {enc : TypeId × Value → H} {w : World} {t e : TypeId} {d : DataW H} {p : List MemPlace} {v : Value} {A : Option Addr} {n c b : Nat} (ht : Tryd.prog.underlying t = some (.slice e)) (hb : Tryd.prog.bytesOf e = b)
    (h : DataW.Trod enc Tryd.prog w 0 (fun _ => true) true t v d p) (hw : ∀ m ∈ d.weights Tryd.prog t, m ≤ 140737488351232) (hv : v = .slice A n c) : n * b ≤ 140737488351232 := by
  subst hv
  obtain ⟨fuel, hf⟩ := h
  have hf' : DataW.trod enc Tryd.prog w 0 (fun _ => true) true fuel t [.slice A n c] = some (d, p) := by simpa [Value.cells] using hf
  rcases DataW.trod_slice ht hf' with ⟨h0, _⟩ | ⟨a, len, cap, elems, rest, n', _, hcs, hx, _, _, _, hel, _, _, _⟩
  · simp at h0
    obtain ⟨_, rfl, _⟩ := h0
    simp
  · simp at hcs
    obtain ⟨_, rfl, _⟩ := hcs
    simp only [Prod.mk.injEq] at hx
    have := hw ((elems.length + rest.length) * Tryd.prog.bytesOf e) (by rw [hx.1]; simp [DataW.weights, ht])
    rw [hb] at this
    refine Nat.le_trans ?_ this
    rw [← hel]
    exact Nat.mul_le_mul_right _ (Nat.le_add_right _ _)
set_option maxRecDepth 100000 in
theorem reads0 : ∀ t ∈ Tryd.f7.params.toList, Tryd.prog.readableRec t = true ∧ t < Tryd.prog.types.size := fun t ht => by
  have := List.all_eq_true.1 (show (Tryd.f7.params.toList.all fun t => Tryd.prog.readableRec t && decide (t < Tryd.prog.types.size)) = true by kernel_rfl) t ht
  simpa using this
set_option maxRecDepth 100000 in
theorem contract (H : Type) (enc : TypeId × Value → H) (W : World) (base : Nat) (args : Array Value) (ds gs : List (DataW H)) (before : List MemPlace)
    (hval : ∀ (j : Nat) t v, Tryd.f7.params[j]? = some t → args[j]? = some v → Value.okWide Tryd.prog W .any base t v)
    (hW : DataW.Whole enc Tryd.prog Tryd.f7.params.toList Rows.codeEncodesSpec.vars false W args.toList ds gs before) (hwt : (DataW.weightsEach Tryd.prog (Tryd.f7.params.toList ++ (OpenSpec.ofChange Rows.codeEncodesSpec).bare.plain.varTypes Tryd.prog) (ds ++ gs)).all (· ≤ reachBytes) = true) (hL : laidMetH Tryd.prog Rows.codeEncodesRow.laid W) (hsh : W.ShapedOpen Tryd.prog) :
    Calls Tryd.prog 7 args W fun e W' => ∃ v, e = .returned v ∧ Rows.codeEncodesSpec.post enc Tryd.prog Tryd.f7 false true false false W args v W' := by
  have hW' := hW
  obtain ⟨p, q, hA0, hV, rfl, hfz, hnd⟩ := hW
  have hA : DataW.TrodAll enc Tryd.prog W 0 (fun _ => true) true Tryd.f7.params.toList args.toList ds p := hA0
  rw [Tryd.params7] at hA hval
  obtain ⟨v0, vs0, d0, ds0, p0, q0, hargs, rfl, rfl, h0, r0⟩ := trodAll_cons hA
  obtain ⟨rfl, rfl, rfl⟩ := trodAll_nil r0
  obtain rfl : args = #[v0] := by cases args; simp_all
  obtain ⟨rfl, rfl⟩ := trodVars_none hV
  have hwr := reach_of (P := Tryd.prog) hwt 0 (t := 23) rfl rfl
  have hLW := table (show laidMetH Tryd.prog Rows.codeOneRow.laid W from hL) hsh
  obtain ⟨l0, hr0, hb0⟩ := open_is Tryd.underlying23 (hval 0 23 v0 rfl rfl) h0
  obtain ⟨A0, c0, hv0, -⟩ := id hr0
  have hn0 := rows_weight (b := 40) Tryd.underlying23 (by kernel_rfl) h0 hwr hv0
  refine (encodes_walk v0 l0 (by omega) W hr0 hLW).mono ?_
  rintro e W' ⟨rfl, hb⟩
  exact ⟨_, rfl, law_post (tb := 4) Tryd.laid reads0 rfl Tryd.underlying4 rfl (fun ds h => match ds, h with | [_], _ => rfl) hW' hb⟩
set_option maxRecDepth 100000 in
theorem reads (os : Os) {H : Type} (enc : TypeId × Value → H) : ∃ places, DataW.whole enc Tryd.prog ((laidWorld os).forCall (fun _ _ => 0) ⟨#[], #[.slice none 0 0], []⟩).memory Tryd.f7.params.toList Rows.codeEncodesSpec.vars false (#[.slice none 0 0] : Array Value).toList 8 = some ([.nil], [], places) :=
  ⟨[], by kernel_rfl⟩
set_option maxRecDepth 100000 in
theorem lifted (os : Os) (started : os.Started) (H : Type) (enc : TypeId × Value → H) (F : Stop.Interp) :
    ReturnsInHanded {} Tryd.checked os 7 .any ((OpenSpec.ofChange Rows.codeEncodesSpec).preRow enc Tryd.prog Tryd.f7 Rows.codeEncodesRow.domain false Rows.codeEncodesRow.laid) (((OpenSpec.ofChange Rows.codeEncodesSpec).at F).post enc Tryd.prog Tryd.f7 false true false false) := by
  obtain ⟨places, hx⟩ := reads os enc
  refine returnsInHanded_of_row (C := Tryd.checked) (s := (OpenSpec.ofChange Rows.codeEncodesSpec)) Tryd.own started (by kernel_rfl) Tryd.func7
    (witness_row_atRef (enc := enc) (C := Tryd.checked) false (laidWorld os) #[.slice none 0 0] rfl (by kernel_rfl) (by kernel_rfl) (by kernel_rfl)
      (OpenSpec.preRow_of_cond 8 hx (by kernel_rfl) (fun k hk => by cases hk) (by kernel_rfl) (laid_met os _))) ?_
  intro W base args ds gs before hval hW _ _ hwt hL hsh _
  exact contract H enc W base args ds gs before hval hW hwt hL hsh
set_option maxRecDepth 100000 in
theorem said : Rows.CodeEncodesSaid :=
  OpenClaim.holds_of_cond 7 Tryd.f7 rfl rfl rfl rfl rfl rfl rfl ⟨rfl, rfl, rfl, rfl, rfl⟩ rfl rfl rfl rfl rfl (by kernel_rfl) Tryd.func7 (by kernel_rfl)
    (of_decide_eq_true (by kernel_rfl)) (by unfold Func.isWrapper; first | (rw [if_pos (by decide +kernel)]; kernel_rfl) | (rw [if_neg (by decide +kernel)]; exact ⟨rfl, rfl⟩))
    (fun os started H enc _ F => by rw [OpenClaim.pre_eq_preRow]; exact lifted os started H enc F)
set_option maxRecDepth 100000 in
/-- No parameter wants a stand-in; the program's own looks are off: what the card asks. -/
theorem plain (f : FuncId) (fn : Func) (hf : Tryd.pinned.checked.prog.funcNamed "clevis/clevislaw04.CodeEncodes" = some f) (hfn : Tryd.pinned.checked.prog.funcs[f]? = some fn) :
    true = Tryd.pinned.checked.prog.looks [] ∧ ∀ (j : Nat) t, fn.params[j]? = some t → Tryd.pinned.checked.prog.wantsStandIn t = false := by
  obtain rfl : f = 7 := Option.some.inj ((show Tryd.prog.funcNamed "clevis/clevislaw04.CodeEncodes" = some 7 by kernel_rfl).symm.trans hf) |>.symm
  obtain rfl : fn = Tryd.f7 := (Option.some.inj (Tryd.func7.symm.trans hfn)).symm
  refine ⟨by kernel_rfl, fun j t ht => ?_⟩
  rw [Tryd.params7] at ht
  have hm := Array.mem_of_getElem? ht
  have := List.all_eq_true.1 (show (#[23] : Array TypeId).toList.all (fun t => Tryd.prog.wantsStandIn t == false) = true by kernel_rfl) t (by simpa using hm)
  exact (show Tryd.prog.wantsStandIn t = false by simpa using this)
set_option maxRecDepth 100000 in
/-- THE STATEMENT's CARD -/
theorem proved : Rows.CodeEncodesCardSaid :=
  Claim7.holds_tied_plain_at .later [] _ _ _ _ said (fun _ h => by cases h) (by kernel_rfl) (fun _ h => by cases h) codeEncodes_row_tie rfl ⟨rfl, rfl⟩ (by kernel_rfl) rfl plain (by kernel_rfl)
#print axioms proved
end codeEncF
end Go.Proofs.YtmbacegbcccdjaaDoor
