/-
  Layer 4: CodeOne: the frame: what the listed variables give the walk; a world that lays them; the statement and its card.
  Conditions: none. (My own text.)
-/
import Derived.Test.YtmbacegbcccdjaaDoorKni
import Derived.Test.YtmbacegbcccdjaaDoorCards
import Derived.Test.YtmbacegbcccdjaaDoorTie
import Derived.Deep.DeepHandedRow
import Derived.Deep.DeepWitnessRowRef
import Derived.Lib.LaidTab
import Derived.Stop.LaidErr
import Derived.Shelf.Vars
namespace Go.Proofs.YtmbacegbcccdjaaDoor
open Go.ChangeShapes Go.WideShapes Go.ChangeAt Go.RowKit
open Go.ChangeMaps (open_string)
set_option linter.unusedVariables false
set_option linter.unusedSimpArgs false
set_option maxRecDepth 100000

namespace codeOne
set_option maxRecDepth 100000 in
theorem gTab : Tryd.prog.globalNamed "internal/strconv.uint64pow10" = some 1 := by kernel_rfl
set_option maxRecDepth 100000 in
theorem gTabType : (Tryd.prog.globals[1]?).map (·.type) = some 118 := by kernel_rfl
set_option maxRecDepth 100000 in
theorem tabCells : Tryd.prog.cellsOf 118 = 20 := by kernel_rfl
set_option maxRecDepth 100000 in
theorem elCells : Tryd.prog.cellsOf 105 = 1 := by kernel_rfl
set_option maxRecDepth 100000 in
theorem gS : Tryd.prog.globalNamed "strconv.ErrSyntax" = some 4 := by kernel_rfl
set_option maxRecDepth 100000 in
theorem gR : Tryd.prog.globalNamed "strconv.ErrRange" = some 5 := by kernel_rfl
set_option maxRecDepth 100000 in
theorem gSType : (Tryd.prog.globals[4]?).map (·.type) = some 70 := by kernel_rfl
set_option maxRecDepth 100000 in
theorem gRType : (Tryd.prog.globals[5]?).map (·.type) = some 70 := by kernel_rfl
theorem star : "*" ++ "errors.errorString" = "*errors.errorString" := by decide
set_option maxRecDepth 100000 in
theorem rowE (u : TypeId) (h : Tryd.prog.typeName? 3 u = some "*errors.errorString") : u = 136 :=
  typeName_ptr_named (nm := "errors.errorString") (by rw [star]; kernel_rfl) (by kernel_rfl) (by decide) u (by rw [star]; exact h)
set_option maxRecDepth 100000 in
theorem cellsE : Tryd.prog.cellsOf 138 = 1 := by kernel_rfl
set_option maxRecDepth 100000 in
theorem cellsS : Tryd.prog.cellsOf 9 = 1 := by kernel_rfl

set_option maxRecDepth 100000 in
/-- What the row's list and the world's shape give. -/
theorem table {W : World} (h0 : laidMetH Tryd.prog Rows.codeOneRow.laid W) (hsh : W.ShapedOpen Tryd.prog) : LaidW W := by
  have h : laidMet Tryd.prog Rows.codeOneRow.laid W := h0
  obtain ⟨aR, sR, hvR, _, _, _⟩ := laid_sentinel h.tail.tail.tail.tail gR gRType Tryd.underlying70 rowE Tryd.underlying136 Tryd.underlying138 rfl rfl Tryd.underlying9 cellsE cellsS
  obtain ⟨aS, sS, hvS, _, _, _⟩ := laid_sentinel h.tail.tail.tail.tail.tail gS gSType Tryd.underlying70 rowE Tryd.underlying136 Tryd.underlying138 rfl rfl Tryd.underlying9 cellsE cellsS
  refine ⟨Lib.tabIs_of_head gTab gTabType Tryd.underlying118 Tryd.underlying105 elCells tabCells h.tail.tail, ⟨_, _, hvS⟩, ⟨_, _, hvR⟩, ?_, ?_⟩
  · exact cell_of_shapedOpen_int (t := 3) (zero := #[.int .i64 0]) hsh (of_decide_eq_true (by kernel_rfl)) (by kernel_rfl) rfl (by kernel_rfl) (by kernel_rfl) Tryd.underlying3
  · have hs : ((((begin Tryd.prog (fun _ _ => 0) default).world.heap[7]?).bind Obj.row?).isSome) = true := by kernel_rfl
    obtain ⟨⟨z, t⟩, hz⟩ := Option.isSome_iff_exists.1 hs
    obtain ⟨cs, hc, _⟩ := hsh.1 7 z t (of_decide_eq_true (by kernel_rfl)) hz
    rcases Nat.lt_or_ge 7 W.heap.size with hl | hl
    · exact hl
    · rw [Array.getElem?_eq_none hl] at hc; cases hc

set_option maxRecDepth 100000 in
theorem reads0 : ∀ t ∈ Tryd.f6.params.toList, Tryd.prog.readableRec t = true ∧ t < Tryd.prog.types.size := fun t ht => by
  have := List.all_eq_true.1 (show (Tryd.f6.params.toList.all fun t => Tryd.prog.readableRec t && decide (t < Tryd.prog.types.size)) = true by kernel_rfl) t ht
  simpa using this
set_option maxRecDepth 100000 in
theorem contract (H : Type) (enc : TypeId × Value → H) (W : World) (base : Nat) (args : Array Value) (ds gs : List (DataW H)) (before : List MemPlace)
    (hval : ∀ (j : Nat) t v, Tryd.f6.params[j]? = some t → args[j]? = some v → Value.okWide Tryd.prog W .any base t v)
    (hW : DataW.Whole enc Tryd.prog Tryd.f6.params.toList Rows.codeOneSpec.vars false W args.toList ds gs before) (hL : laidMetH Tryd.prog Rows.codeOneRow.laid W) (hsh : W.ShapedOpen Tryd.prog) :
    Calls Tryd.prog 6 args W fun e W' => ∃ v, e = .returned v ∧ Rows.codeOneSpec.post enc Tryd.prog Tryd.f6 false true false false W args v W' := by
  have hW' := hW
  obtain ⟨p, q, hA0, hV, rfl, hfz, hnd⟩ := hW
  have hA : DataW.TrodAll enc Tryd.prog W 0 (fun _ => true) true Tryd.f6.params.toList args.toList ds p := hA0
  rw [Tryd.params6] at hA hval
  obtain ⟨v0, vs0, d0, ds0, p0, q0, hargs, rfl, rfl, h0, r0⟩ := trodAll_cons hA
  obtain ⟨v1, vs1, d1, ds1, p1, q1, rfl, rfl, rfl, h1, r1⟩ := trodAll_cons r0
  obtain ⟨v2, vs2, d2, ds2, p2, q2, rfl, rfl, rfl, h2, r2⟩ := trodAll_cons r1
  obtain ⟨rfl, rfl, rfl⟩ := trodAll_nil r2
  obtain rfl : args = #[v0, v1, v2] := by cases args; simp_all
  obtain ⟨cs0, rfl, hl0, hf0⟩ := open_ones Tryd.underlying39 (by kernel_rfl) (by kernel_rfl) (hval 0 39 v0 rfl rfl) h0
  match cs0, hl0 with
  | [a0, a1, a2, a3, a4], _ =>
  obtain ⟨na0, ya0, ea0⟩ := hf0 0 _ _ rfl rfl
  obtain ⟨xa0, rfl, wa0⟩ := int_cell Tryd.underlying37 ea0
  obtain ⟨na1, ya1, ea1⟩ := hf0 1 _ _ rfl rfl
  obtain ⟨xa1, rfl, wa1⟩ := int_cell Tryd.underlying3 ea1
  obtain ⟨na2, ya2, ea2⟩ := hf0 2 _ _ rfl rfl
  obtain ⟨xa2, rfl, wa2⟩ := int_cell Tryd.underlying3 ea2
  obtain ⟨na3, ya3, ea3⟩ := hf0 3 _ _ rfl rfl
  obtain ⟨xa3, rfl, wa3⟩ := int_cell Tryd.underlying3 ea3
  obtain ⟨na4, ya4, ea4⟩ := hf0 4 _ _ rfl rfl
  obtain ⟨xa4, rfl, wa4⟩ := int_cell Tryd.underlying3 ea4
  obtain ⟨n, rfl, _, _, wn⟩ := open_int Tryd.underlying5 (hval 1 5 v1 rfl rfl) h1
  obtain ⟨m, rfl, _, _, wm⟩ := open_int Tryd.underlying5 (hval 2 5 v2 rfl rfl) h2
  obtain ⟨a, rfl⟩ : ∃ a : UInt8, n = (a.toNat : Int) := by
    have r : 0 ≤ n ∧ n ≤ 255 := by have h := wn; simp [Lit.wf, IntKind.min, IntKind.max, IntKind.signed, IntKind.bits] at h; omega
    exact ⟨UInt8.ofNat n.toNat, by simp; omega⟩
  obtain ⟨b, rfl⟩ : ∃ b : UInt8, m = (b.toNat : Int) := by
    have r : 0 ≤ m ∧ m ≤ 255 := by have h := wm; simp [Lit.wf, IntKind.min, IntKind.max, IntKind.signed, IntKind.bits] at h; omega
    exact ⟨UInt8.ofNat m.toNat, by simp; omega⟩
  refine (one_any ⟨xa0, xa1, xa2, xa3, xa4⟩ a b W (table hL hsh)).mono ?_
  rintro e W' ⟨rfl, hb⟩
  exact ⟨_, rfl, law_post (tb := 4) Tryd.laid reads0 rfl Tryd.underlying4 rfl (fun ds h => match ds, h with | [_, _, _], _ => rfl) hW' hb⟩

/-! ### A world that lays what is listed -/
def litV : DataW Unit → Value
  | .lit (.int k z) => .int k z
  | _ => undef
def tabV : DataW Unit → Array Value
  | .agg l => (l.map litV).toArray
  | _ => #[]
def tab2V : DataW Unit → Array Value
  | .agg l => (l.flatMap fun | .agg m => m.map litV | _ => []).toArray
  | _ => #[]
def putV (cs : Array Value) : Obj → Obj
  | .cells _ t frozen => .cells cs t frozen
  | o => o
abbrev txtR : ByteArray := { data := #[118, 97, 108, 117, 101, 32, 111, 117, 116, 32, 111, 102, 32, 114, 97, 110, 103, 101] }
abbrev txtS : ByteArray := { data := #[105, 110, 118, 97, 108, 105, 100, 32, 115, 121, 110, 116, 97, 120] }
noncomputable def low : Nat := (World.holding Tryd.prog default ⟨#[], #[], []⟩).heap.size
noncomputable def laidWorld (os : Os) : World :=
  let w0 := World.holding Tryd.prog os ⟨#[.cells #[.string txtR] 138, .cells #[.string txtS] 138], #[], []⟩
  { w0 with heap := ((((((w0.heap.modify 1 (putV (tabV Rows.laid_internal_strconv_uint64pow10))).modify 2 (putV (tabV Rows.laid_unicode_utf8_first))).modify 3 (putV (tab2V Rows.laid_unicode_utf8_acceptRanges))).modify 4 (putV #[.iface 136 (.pointer (some ⟨low + 1, 0, none⟩))])).modify 5 (putV #[.iface 136 (.pointer (some ⟨low, 0, none⟩))])).modify 6 (putV (tabV Rows.laid_math_bits_deBruijn32tab))).modify 7 (putV (tabV Rows.laid_math_bits_deBruijn64tab)) }
set_option maxRecDepth 100000 in
theorem laid_met (os : Os) (args : Array Value) : laidMet Tryd.prog Rows.codeOneRow.laid ((laidWorld os).forCall (fun _ _ => 0) ⟨#[], args, []⟩).memory :=
  laidMet_of_run' 8 (by kernel_rfl) (by kernel_rfl)
set_option maxRecDepth 100000 in
theorem reads (os : Os) {H : Type} (enc : TypeId × Value → H) : ∃ places, DataW.whole enc Tryd.prog ((laidWorld os).forCall (fun _ _ => 0) ⟨#[], #[.agg #[.int .i64 0, .int .i64 0, .int .i64 0, .int .i64 0, .int .i64 0], .int .u8 0, .int .u8 0], []⟩).memory Tryd.f6.params.toList Rows.codeOneSpec.vars false (#[.agg #[.int .i64 0, .int .i64 0, .int .i64 0, .int .i64 0, .int .i64 0], .int .u8 0, .int .u8 0] : Array Value).toList 8 = some ([.agg [.lit (.int .i64 0), .lit (.int .i64 0), .lit (.int .i64 0), .lit (.int .i64 0), .lit (.int .i64 0)], .lit (.int .u8 0), .lit (.int .u8 0)], [], places) :=
  ⟨[], by kernel_rfl⟩
set_option maxRecDepth 100000 in
theorem lifted (os : Os) (started : os.Started) (H : Type) (enc : TypeId × Value → H) (F : Stop.Interp) :
    ReturnsInHanded {} Tryd.checked os 6 .any ((OpenSpec.ofChange Rows.codeOneSpec).preRow enc Tryd.prog Tryd.f6 Rows.codeOneRow.domain false Rows.codeOneRow.laid) (((OpenSpec.ofChange Rows.codeOneSpec).at F).post enc Tryd.prog Tryd.f6 false true false false) := by
  obtain ⟨places, hx⟩ := reads os enc
  refine returnsInHanded_of_row (C := Tryd.checked) (s := OpenSpec.ofChange Rows.codeOneSpec) Tryd.own started (by kernel_rfl) Tryd.func6
    (witness_row_atRef (enc := enc) (C := Tryd.checked) false (laidWorld os) #[.agg #[.int .i64 0, .int .i64 0, .int .i64 0, .int .i64 0, .int .i64 0], .int .u8 0, .int .u8 0] rfl (by kernel_rfl) (by kernel_rfl) (by kernel_rfl)
      (OpenSpec.preRow_of_cond 8 hx (by kernel_rfl) (fun k hk => by cases hk) (by kernel_rfl) (laid_met os _))) ?_
  intro W base args ds gs before hval hW _ _ _ hL hsh _
  exact contract H enc W base args ds gs before hval hW hL hsh
set_option maxRecDepth 100000 in
theorem said : Rows.CodeOneSaid :=
  OpenClaim.holds_of_cond 6 Tryd.f6 rfl rfl rfl rfl rfl rfl rfl ⟨rfl, rfl, rfl, rfl, rfl⟩ rfl rfl rfl rfl rfl (by kernel_rfl) Tryd.func6 (by kernel_rfl)
    (of_decide_eq_true (by kernel_rfl)) (by unfold Func.isWrapper; first | (rw [if_pos (by decide +kernel)]; kernel_rfl) | (rw [if_neg (by decide +kernel)]; exact ⟨rfl, rfl⟩))
    (fun os started H enc _ F => by rw [OpenClaim.pre_eq_preRow]; exact lifted os started H enc F)
set_option maxRecDepth 100000 in
/-- No parameter wants a stand-in; the program's own looks are off: what the card asks. -/
theorem plain (f : FuncId) (fn : Func) (hf : Tryd.pinned.checked.prog.funcNamed "clevis/clevislaw04.CodeOne" = some f) (hfn : Tryd.pinned.checked.prog.funcs[f]? = some fn) :
    true = Tryd.pinned.checked.prog.looks [] ∧ ∀ (j : Nat) t, fn.params[j]? = some t → Tryd.pinned.checked.prog.wantsStandIn t = false := by
  obtain rfl : f = 6 := Option.some.inj ((show Tryd.prog.funcNamed "clevis/clevislaw04.CodeOne" = some 6 by kernel_rfl).symm.trans hf) |>.symm
  obtain rfl : fn = Tryd.f6 := (Option.some.inj (Tryd.func6.symm.trans hfn)).symm
  refine ⟨by kernel_rfl, fun j t ht => ?_⟩
  rw [Tryd.params6] at ht
  have hm : t = 39 ∨ t = 5 := by
    have := Array.mem_of_getElem? ht
    simpa using this
  rcases hm with rfl | rfl
  · exact (show Tryd.prog.wantsStandIn 39 = false by kernel_rfl)
  · exact (show Tryd.prog.wantsStandIn 5 = false by kernel_rfl)
set_option maxRecDepth 100000 in
/-- THE STATEMENT's CARD -/
theorem proved : Rows.CodeOneCardSaid :=
  Claim7.holds_tied_plain_at .later [] _ _ _ _ said (fun _ h => by cases h) (by kernel_rfl) (fun _ h => by cases h) codeOne_row_tie rfl ⟨rfl, rfl⟩ (by kernel_rfl) rfl plain (by kernel_rfl)
#print axioms proved
end codeOne
end Go.Proofs.YtmbacegbcccdjaaDoor
