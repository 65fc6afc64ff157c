/-
  Layer 4: the document's Line and Print: what they compute.
  Conditions: none. (My own text.)
-/
import Derived.Test.YtmbacegbcccdjaaDoorKpa
import Derived.Test.YtmbacegbcccdjaaDoorKfr
import Derived.Test.YtmbacegbcccdjaaDoorRgd
import Derived.Test.YtmbacegbcccdjaaDoorCdc
import Derived.Test.YtmbacegbcccdjaaDoorCdd
import Derived.Test.YtmbacegbcccdjaaDoorKnj
namespace Go.Proofs.YtmbacegbcccdjaaDoor
open Go.RowKit Spm
set_option linter.unusedVariables false
set_option linter.unusedSimpArgs false

open Go.Lib hiding intOf
attribute [local irreducible] wpList
section
variable {P : Program} {ops : Array Oper} {S : World → Prop} {o : Oper} {a : Go.Act} {Q : Exit → Go.Act → World → Prop}
theorem yR_pure {v : Value} (hw : Region.wanted o (yielded ops a.tmps) = true) (h : ∀ w, (execOp a.eval o).run P w = .ok (.value v) w) : YieldsIf P ops S o v a := .inl ⟨hw, fun w _ => h w⟩
theorem yR_row (hw : Region.wanted o (yielded ops a.tmps) = true) (ty : TypeId) (x : Operand) (ho : o.op = .load ty x) (g : Nat) (hx : a.eval x = .pointer (some ⟨g, 0, none⟩)) (t : TypeId) (cs : Array Value) (d : TypeDesc)
    (hg : ∀ w, S w → Blk w g t cs) (hu : P.underlying ty = some d) (hd : (match d with | .struct _ | .array _ _ => true | _ => false) = true) (hi : (P.info? ty).map (·.size) = some cs.size) :
    YieldsIf P ops S o (.agg cs) a := .inl ⟨hw, fun w hS => by
  have hb : w.heap[g]? = some (.cells cs t (0, 0)) := hg w hS
  unfold execOp
  simp only [ho, hx, Instr.loadAt, Instr.sureAddr, Sem.run_bind, Sem.run_pure, Result.andThen_ok, run_loadVar_row w g t ty cs (0, 0) d hb hu hd hi]⟩
theorem yR_part (hw : Region.wanted o (yielded ops a.tmps) = true) (ty : TypeId) (x : Operand) (ho : o.op = .load ty x) (g k : Nat) (hx : a.eval x = .pointer (some ⟨g, k, none⟩)) (cs : Array Value) (d : TypeDesc)
    (hg : ∀ w, S w → ∀ j v, cs.toList[j]? = some v → w.cell? ⟨g, k + j, none⟩ = some v) (hu : P.underlying ty = some d) (hd : (match d with | .struct _ | .array _ _ => true | _ => false) = true) (hi : (P.info? ty).map (·.size) = some cs.size) :
    YieldsIf P ops S o (.agg cs) a := .inl ⟨hw, fun w hS => by
  unfold execOp
  simp only [ho, hx, Instr.loadAt, Instr.sureAddr, Sem.run_bind, Sem.run_pure, Result.andThen_ok, run_loadVar_part w g k ty cs d (hg w hS) hu hd hi]⟩
theorem yR_sl {t e : TypeId} (hw : Region.wanted o (yielded ops a.tmps) = true) (x ix : Operand) (ho : o.op = .indexAddr t x ix) (g k len cap j s : Nat) (hx : a.eval x = .slice (some ⟨g, k, none⟩) len cap) (hi : a.eval ix = .int .i64 j)
    (hu : P.underlying t = some (.slice e)) (hs : (P.info? e).map (·.size) = some s) (hj : j < len) : YieldsIf P ops S o (.pointer (some ⟨g, k + j * s, none⟩)) a := by
  exact .inl ⟨hw, fun w _ => by
      have he : P.elem t = e := by simp [Program.elem, hu]
      have hz : (sizeOf e).run P w = .ok s w := by
        cases hq : P.info? e with
        | none => simp [hq] at hs
        | some i =>
          have : i.size = s := by simpa [hq] using hs
          simp [sizeOf, typeInfo, hq, this]
      have h2 : (0 : Int) ≤ (j : Int) ∧ (j : Int) < (len : Int) := by omega
      unfold execOp
      simp only [ho, hx, hi, Sem.run_bind]
      rw [run_indexAt_slice w t ⟨g, k, none⟩ len cap .i64 j (by rw [he]; exact hu), he, if_pos h2, hz]
      simp [Addr.add]⟩
theorem run_strIx {w : World} {s : ByteArray} {k : Nat} {f : UInt8} {t : TypeId} {p q : Operand} (ho : o.op = .index t p q) (hx : a.eval p = .string s) (hy : a.eval q = .int .i64 k) (hu : P.underlying t = some .string) (hk : k < s.size) (hf : s[k]'hk = f) : (execOp a.eval o).run P w = .ok (.value (.int .u8 f.toNat)) w := by
  have h1 : (0 : Int) ≤ (k : Int) ∧ (k : Int) < (s.size : Int) := by omega
  have h2 : (Instr.index t (.string s) (.int .i64 k)).run P w = .ok (.int .u8 f.toNat) w := by
    rw [run_index_string w t s .i64 k hu, dif_pos h1]
    simp [hf]
  unfold execOp
  rw [ho]
  simp only [hx, hy]
  simp [Sem.run_bind, h2]
theorem run_cat {w : World} {x y : ByteArray} {t t' : TypeId} {p q : Operand} (ho : o.op = .binOp .add t p q t') (hx : a.eval p = .string x) (hy : a.eval q = .string y) (hu : P.underlying t = some .string) (hs : x.size + y.size ≤ 9223372036854775807) : (execOp a.eval o).run P w = .ok (.value (.string (x ++ y))) w := by
  have h2 := run_string_add_sum (P := P) w x y hs
  unfold execOp
  rw [ho]
  simp only [hx, hy]
  simp [Sem.run_bind, binOp, run_underlying hu, h2, eqGuard]
theorem callR {md : Region.Mode} {i : Nat} {fuel : Nat} {listed : Array Bool} {w : World} (dst : Nat) (hr : Region.ready md ops listed = [i]) (hi : ops[i]? = some o) (hd : o.dst = some dst) (hw : Region.wanted o (yielded ops a.tmps) = true)
    (f : FuncId) (oa : Array Operand) (ats : Array TypeId) (ho : o.op = .call { callee := .value (.func f), args := oa, argTypes := ats }) (args : Array Value) (hrun : (execOp a.eval o).run P w = .ok (.enter f args) w)
    (h : Calls P f args w fun e w' => ∃ v, e = .returned v ∧ S w' ∧ wpAnyH P md ops Q S fuel (listed.setIfInBounds i true) (a.put (some dst) v) w') : wpAnyH P md ops Q S (fuel + 1) listed a w :=
  wpAnyH_all hr (by simp) (fun j hj => by
    obtain rfl : j = i := by simpa using hj
    exact opR_call dst hi hd hw f oa ats ho args hrun h)
end
/-- A ByteArray's letters. -/
theorem cat_list (x y : ByteArray) : (x ++ y).data.toList = x.data.toList ++ y.data.toList := by rw [ByteArray.data_append]; simp
theorem sz_list (x : ByteArray) : x.size = x.data.toList.length := rfl
set_option maxRecDepth 100000 in
set_option maxHeartbeats 4000000 in
theorem rline_any (i : Ins) (hm : mayS i = true) (w : World) (hL : LaidW w) : Calls Tryd.prog 39 #[.agg (inA i)] w fun e w' => e = .returned (.string ⟨(lineS i).toArray⟩) ∧ Below w.heap.size w w' := by
  have HL := Lib.hid (fun (X : World) (hb : Below w.heap.size w X) => hL.below hb)
  clear hL
  have HMY := Lib.hid hm
  obtain ⟨⟨o1, o2⟩, -⟩ := may_rng hm
  obtain ⟨m, hmo⟩ : ∃ m : Nat, i.op = m := ⟨i.op.toNat, by omega⟩
  have hm23 : m < 23 := by omega
  have HOP := Lib.hid hmo
  have hsz3 : (formS m).size ≤ 3 := by have := opF_len ⟨m, hm23⟩; simpa [opF] using this
  have M0 := Lib.hid ((Has.start (Below.refl w.heap.size w) (Nat.le_refl _)).newcel 39 (inA i))
  clear hm o1 o2 hmo
  go_enter Tryd.func39, Tryd.ntmps39
  go_upto_region 1 with (fail)
  obtain ⟨W, hW⟩ : ∃ W, (w.alloc (.cells (inA i) 39)) = W := ⟨_, rfl⟩
  rw [hW] at M0 ⊢
  clear hW
  generalize hB : w.heap.size = b1 at M0 HL ⊢
  have HB := Lib.hid hB
  clear hB
  have M1 : Hid (Has b1 w W (Star (Cel b1 39 (inA i)) Emp)) := M0
  clear M0
  have x0 : W.cell? ⟨b1, 0, none⟩ = some (.int .i64 m) := by rw [(M1.out.getc b1).cell]; show some (Value.int .i64 i.op) = _; rw [HOP.out]
  have C1 := Lib.hid (name_any (m : Int) W)
  go_wp2_with fail
  refine (C1.out).mono ?_
  rintro e w2 ⟨rfl, rfl⟩
  clear C1 x0
  go_wp2_with fail
  go_loopw [3, 6] (fun t k wr => ∃ (k2 : Nat) (T : ByteArray), k2 ≤ (formS m).size ∧ t = .string T ∧ k = .int .i64 k2 ∧ Hid (T.data.toList = (nameS m).data.toList ++ ((opF m).take k2).flatMap (wdS i)) ∧ Hid (Has b1 w wr (Star (Cel b1 39 (inA i)) Emp))) (fun _ k _ => (formS m).size - (intOf k).toNat)
  case atStart => exact ⟨0, _, Nat.zero_le _, rfl, rfl, Lib.hid (by simp), M1⟩
  case round =>
    clear M1
    obtain ⟨k2, T, hk2, rfl, rfl, HT, M2⟩ := hrel
    obtain ⟨wa, hwa⟩ : ∃ wa, wa = wr := ⟨_, rfl⟩
    rw [← hwa] at M2 ⊢
    clear hwa
    by_cases hkn : k2 < (formS m).size
    · obtain ⟨f, hfe⟩ : ∃ f, (formS m)[k2]'hkn = f := ⟨_, rfl⟩
      have hf : (opF m)[k2]? = some f := by
        unfold opF
        rw [Array.getElem?_toList, ← hfe]
        exact Array.getElem?_eq_getElem _
      have hfl : isL f = true := List.all_eq_true.1 (opF_isL ⟨m, hm23⟩) f (List.mem_of_getElem? hf)
      have HFK := Lib.hid (kOf_ltr hfl)
      have HTK : Hid (((opF m).take (k2 + 1)).flatMap (wdS i) = ((opF m).take k2).flatMap (wdS i) ++ wdS i f) := Lib.hid (by rw [List.take_add_one, hf]; simp)
      have hTl : T.size ≤ 100 := by
        have e1 := words_len HMY.out ((opF m).take k2)
        have e2 := opN_len ⟨m, hm23⟩
        rw [List.length_take] at e1
        have e3 : (opF m).length = (formS m).size := by simp [opF]
        rw [sz_list, HT.out, List.length_append]
        unfold opN at e2
        simp only at e2
        omega
      have HPR := Lib.hid (prt_rng HMY.out (kOf f))
      have hil : (⟨(itoa (prt i (kOf f))).toArray⟩ : ByteArray).size ≤ 11 := by rw [sz_list]; simpa using itoa_len HPR.out.1 HPR.out.2
      have CP : Hid (∀ w, Calls Tryd.prog 43 #[.agg (inA i), .int .u8 f.toNat] w fun e w' => e = .returned (.int .i64 (prt i (kOf f))) ∧ Below w.heap.size w w') := Lib.hid (by have := fun w => ipart_any i (kOf f) HFK.out.1 w; rw [HFK.out.2] at this; exact this)
      have hkI : (k2 : Int) < ((formS m).size : Int) := by omega
      have hc1 : T.size + 1 ≤ 9223372036854775807 := by omega
      have hs1 : (T ++ (⟨#[32]⟩ : ByteArray)).size = T.size + 1 := by rw [sz_list, cat_list, List.length_append, ← sz_list]; rfl
      clear hf hfl
      have HFE := Lib.hid hfe
      by_cases hf110 : f = 110
      · have hfI : ((((formS m)[k2]'hkn).toNat : Int) != 110) = false := by rw [hfe, hf110]; rfl
        have HT2 : Hid ((T ++ (⟨#[32]⟩ : ByteArray) ++ ⟨(itoa (prt i (kOf f))).toArray⟩).data.toList = (nameS m).data.toList ++ ((opF m).take (k2 + 1)).flatMap (wdS i)) := Lib.hid (by
          rw [cat_list, cat_list, HT.out, HTK.out]
          unfold wdS
          rw [if_pos hf110]
          simp)
        have hcat : (T ++ (⟨#[32]⟩ : ByteArray)).size + (⟨(itoa (prt i (kOf f))).toArray⟩ : ByteArray).size ≤ 9223372036854775807 := by omega
        clear hf110 hfe
        go_upto_region 8 with fail
        clear hfI
        have hfe := HFE.out
        have hS : (fun X => Below wa.heap.size wa X) wa.drew := (Below.refl _ _).drew
        refine wp_region_noPanic ?_
        refine wp_region_held_drew (S := fun X => Below wa.heap.size wa X) (by kernel_rfl) hS ?_
        intro hS
        refine takeR (i := 0) (v := .string (T ++ (⟨#[32]⟩ : ByteArray))) 28 rfl (by kernel_rfl) (by kernel_rfl) (by kernel_rfl) (by kernel_rfl) (fun _ _ _ h => h) (yR_pure (by kernel_rfl) (fun w => by kernel_rfl)) hS ?_
        refine takeR (i := 1) 29 rfl (by kernel_rfl) (by kernel_rfl) (by kernel_rfl) (by kernel_rfl) (fun _ _ _ h => h) (yR_row (by kernel_rfl) 39 _ rfl b1 (by kernel_rfl) 39 (inA i) _ (fun X h => (M2.out.getc b1).stay (h.mono (Nat.le_refl _)) (M2.out.getc b1).lt) Tryd.underlying39 rfl (by kernel_rfl)) hS ?_
        refine takeR (i := 2) (v := .string (formS m)) 30 rfl (by kernel_rfl) (by kernel_rfl) (by kernel_rfl) (by kernel_rfl) (fun _ _ _ h => h) (yR_pure (by kernel_rfl) (fun w => by kernel_rfl)) hS ?_
        refine takeR (i := 3) (v := .int .i64 k2) 31 rfl (by kernel_rfl) (by kernel_rfl) (by kernel_rfl) (by kernel_rfl) (fun _ _ _ h => h) (yR_pure (by kernel_rfl) (fun w => by kernel_rfl)) hS ?_
        refine takeR (i := 4) (v := .int .u8 f.toNat) 32 rfl (by kernel_rfl) (by kernel_rfl) (by kernel_rfl) (by kernel_rfl) (fun _ _ _ h => h) (yR_pure (by kernel_rfl) (fun w => run_strIx rfl (by kernel_rfl) (by kernel_rfl) Tryd.underlying9 hkn hfe)) hS ?_
        refine wpAnyH_all (rs := [5]) (by kernel_rfl) (by simp) ?_
        intro j hj
        obtain rfl : j = 5 := by simpa using hj
        refine opR_call 33 rfl rfl (by kernel_rfl) _ _ _ rfl _ (by kernel_rfl) ((CP.out _).mono ?_)
        rintro e X ⟨rfl, hbX⟩
        refine ⟨_, rfl, hS.trans (hbX.mono hS.size), ?_⟩
        have hS := hS.trans (hbX.mono hS.size)
        clear hbX
        refine wpAnyH_all (rs := [6]) (by kernel_rfl) (by simp) ?_
        intro j hj
        obtain rfl : j = 6 := by simpa using hj
        refine opR_call 34 rfl rfl (by kernel_rfl) _ _ _ rfl _ (by kernel_rfl) ((itoa_any (prt i (kOf f)) (by have := HPR.out; omega) (by have := HPR.out; omega) _ (HL.out _ (M2.out.bel.trans (hS.mono M2.out.le)))).mono ?_)
        rintro e X2 ⟨rfl, hbX⟩
        refine ⟨_, rfl, hS.trans (hbX.mono hS.size), ?_⟩
        have hS := hS.trans (hbX.mono hS.size)
        clear hbX
        refine takeR (i := 7) (v := .string ((T ++ (⟨#[32]⟩ : ByteArray)) ++ ⟨(itoa (prt i (kOf f))).toArray⟩)) 35 rfl (by kernel_rfl) (by kernel_rfl) (by kernel_rfl) (by kernel_rfl) (fun _ _ _ h => h) (yR_pure (by kernel_rfl) (fun w => run_cat rfl (by kernel_rfl) (by kernel_rfl) Tryd.underlying9 hcat)) hS ?_
        refine takeR (i := 8) (v := .string ((T ++ (⟨#[32]⟩ : ByteArray)) ++ ⟨(itoa (prt i (kOf f))).toArray⟩)) 3 rfl (by kernel_rfl) (by kernel_rfl) (by kernel_rfl) (by kernel_rfl) (fun _ _ _ h => h) (yR_pure (by kernel_rfl) (fun w => by kernel_rfl)) hS ?_
        refine wpAnyH_done (by kernel_rfl) ?_ _
        refine NoPanic.normal ?_
        simp only [Act.put, List.setIfInBounds_toArray, List.set_cons_succ, List.set_cons_zero]
        have M3 := Lib.hid (M2.out.stay hS)
        clear hS hcat M2
        go_wp2_with fail
        first
          | (go_roundw
             case rel => exact ⟨k2 + 1, _, by omega, rfl, by go_num, HT2, M3⟩
             case measure => simp [intOf]; omega)
          | (refine ⟨?_, ?_⟩
             · (repeat apply Exists.intro)
               refine ⟨?_, rfl⟩
               exact ⟨k2 + 1, _, by omega, rfl, by go_num, HT2, M3⟩
             · simp [intOf]; omega)
      · have hfN : ¬ ((((formS m)[k2]'hkn).toNat : Int) = 110) := fun e => hf110 (UInt8.toNat_inj.1 (by rw [show (110 : UInt8).toNat = 110 from rfl]; rw [hfe] at e; omega))
        have hfI : ((((formS m)[k2]'hkn).toNat : Int) != 110) = true := bne_iff_ne.2 hfN
        have hs2 : (T ++ (⟨#[32]⟩ : ByteArray) ++ (⟨#[114]⟩ : ByteArray)).size = T.size + 2 := by rw [sz_list, cat_list, List.length_append, ← sz_list, hs1]; rfl
        have hc2 : (T ++ (⟨#[32]⟩ : ByteArray)).size + 1 ≤ 9223372036854775807 := by omega
        have HT2 : Hid ((T ++ (⟨#[32]⟩ : ByteArray) ++ (⟨#[114]⟩ : ByteArray) ++ ⟨(itoa (prt i (kOf f))).toArray⟩).data.toList = (nameS m).data.toList ++ ((opF m).take (k2 + 1)).flatMap (wdS i)) := Lib.hid (by
          rw [cat_list, cat_list, cat_list, HT.out, HTK.out]
          unfold wdS
          rw [if_neg hf110]
          simp)
        have hcat : (T ++ (⟨#[32]⟩ : ByteArray) ++ (⟨#[114]⟩ : ByteArray)).size + (⟨(itoa (prt i (kOf f))).toArray⟩ : ByteArray).size ≤ 9223372036854775807 := by omega
        clear hf110 hfe
        go_upto_region 8 with fail
        clear hfI hfN
        have hfe := HFE.out
        have hS : (fun X => Below wa.heap.size wa X) wa.drew := (Below.refl _ _).drew
        refine wp_region_noPanic ?_
        refine wp_region_held_drew (S := fun X => Below wa.heap.size wa X) (by kernel_rfl) hS ?_
        intro hS
        refine takeR (i := 0) (v := .string (T ++ (⟨#[32]⟩ : ByteArray) ++ (⟨#[114]⟩ : ByteArray))) 28 rfl (by kernel_rfl) (by kernel_rfl) (by kernel_rfl) (by kernel_rfl) (fun _ _ _ h => h) (yR_pure (by kernel_rfl) (fun w => by kernel_rfl)) hS ?_
        refine takeR (i := 1) 29 rfl (by kernel_rfl) (by kernel_rfl) (by kernel_rfl) (by kernel_rfl) (fun _ _ _ h => h) (yR_row (by kernel_rfl) 39 _ rfl b1 (by kernel_rfl) 39 (inA i) _ (fun X h => (M2.out.getc b1).stay (h.mono (Nat.le_refl _)) (M2.out.getc b1).lt) Tryd.underlying39 rfl (by kernel_rfl)) hS ?_
        refine takeR (i := 2) (v := .string (formS m)) 30 rfl (by kernel_rfl) (by kernel_rfl) (by kernel_rfl) (by kernel_rfl) (fun _ _ _ h => h) (yR_pure (by kernel_rfl) (fun w => by kernel_rfl)) hS ?_
        refine takeR (i := 3) (v := .int .i64 k2) 31 rfl (by kernel_rfl) (by kernel_rfl) (by kernel_rfl) (by kernel_rfl) (fun _ _ _ h => h) (yR_pure (by kernel_rfl) (fun w => by kernel_rfl)) hS ?_
        refine takeR (i := 4) (v := .int .u8 f.toNat) 32 rfl (by kernel_rfl) (by kernel_rfl) (by kernel_rfl) (by kernel_rfl) (fun _ _ _ h => h) (yR_pure (by kernel_rfl) (fun w => run_strIx rfl (by kernel_rfl) (by kernel_rfl) Tryd.underlying9 hkn hfe)) hS ?_
        refine wpAnyH_all (rs := [5]) (by kernel_rfl) (by simp) ?_
        intro j hj
        obtain rfl : j = 5 := by simpa using hj
        refine opR_call 33 rfl rfl (by kernel_rfl) _ _ _ rfl _ (by kernel_rfl) ((CP.out _).mono ?_)
        rintro e X ⟨rfl, hbX⟩
        refine ⟨_, rfl, hS.trans (hbX.mono hS.size), ?_⟩
        have hS := hS.trans (hbX.mono hS.size)
        clear hbX
        refine wpAnyH_all (rs := [6]) (by kernel_rfl) (by simp) ?_
        intro j hj
        obtain rfl : j = 6 := by simpa using hj
        refine opR_call 34 rfl rfl (by kernel_rfl) _ _ _ rfl _ (by kernel_rfl) ((itoa_any (prt i (kOf f)) (by have := HPR.out; omega) (by have := HPR.out; omega) _ (HL.out _ (M2.out.bel.trans (hS.mono M2.out.le)))).mono ?_)
        rintro e X2 ⟨rfl, hbX⟩
        refine ⟨_, rfl, hS.trans (hbX.mono hS.size), ?_⟩
        have hS := hS.trans (hbX.mono hS.size)
        clear hbX
        refine takeR (i := 7) (v := .string ((T ++ (⟨#[32]⟩ : ByteArray) ++ (⟨#[114]⟩ : ByteArray)) ++ ⟨(itoa (prt i (kOf f))).toArray⟩)) 35 rfl (by kernel_rfl) (by kernel_rfl) (by kernel_rfl) (by kernel_rfl) (fun _ _ _ h => h) (yR_pure (by kernel_rfl) (fun w => run_cat rfl (by kernel_rfl) (by kernel_rfl) Tryd.underlying9 hcat)) hS ?_
        refine takeR (i := 8) (v := .string ((T ++ (⟨#[32]⟩ : ByteArray) ++ (⟨#[114]⟩ : ByteArray)) ++ ⟨(itoa (prt i (kOf f))).toArray⟩)) 3 rfl (by kernel_rfl) (by kernel_rfl) (by kernel_rfl) (by kernel_rfl) (fun _ _ _ h => h) (yR_pure (by kernel_rfl) (fun w => by kernel_rfl)) hS ?_
        refine wpAnyH_done (by kernel_rfl) ?_ _
        refine NoPanic.normal ?_
        simp only [Act.put, List.setIfInBounds_toArray, List.set_cons_succ, List.set_cons_zero]
        have M3 := Lib.hid (M2.out.stay hS)
        clear hS hcat M2
        go_wp2_with fail
        first
          | (go_roundw
             case rel => exact ⟨k2 + 1, _, by omega, rfl, by go_num, HT2, M3⟩
             case measure => simp [intOf]; omega)
          | (refine ⟨?_, ?_⟩
             · (repeat apply Exists.intro)
               refine ⟨?_, rfl⟩
               exact ⟨k2 + 1, _, by omega, rfl, by go_num, HT2, M3⟩
             · simp [intOf]; omega)
    · have hke : k2 = (formS m).size := by omega
      have HE : Hid ((⟨(lineS i).toArray⟩ : ByteArray) = T) := Lib.hid ((str_eq _ _).2 (by
        rw [HT.out, hke, show (formS m).size = (opF m).length from by simp [opF], List.take_length]
        unfold lineS
        rw [HOP.out]
        rfl))
      have MZ := Lib.hid M2.out.bel
      go_wp2_with fail
      go_ret
      exact ⟨by rw [HE.out]; rfl, by rw [HB.out]; exact MZ.out⟩
set_option maxRecDepth 100000 in
set_option maxHeartbeats 4000000 in
theorem rprint_any (is : List Ins) (hn : is.length ≤ 3518437208832) (v : Value) (w : World) (hR : RowsAt 5 Ins.cells w (fun k => k < w.heap.size) v is) (hL : LaidW w) : Calls Tryd.prog 22 #[v] w (PrtE (printI is) w) := by
  obtain ⟨A, c, rfl, hlc, hcm, hrow⟩ := hR
  have HR := Lib.hid hrow
  have HL := Lib.hid (fun (X : World) (hb : Below w.heap.size w X) => hL.below hb)
  clear hrow hlc hcm hL
  have HN := Lib.hid hn
  clear hn
  go_enter Tryd.func22, Tryd.ntmps22
  go_wp2_with fail
  go_loopw [4, 5] (fun s t wr => ∃ (k : Nat) (T : ByteArray), k ≤ is.length ∧ s = .string T ∧ t = .int .i64 k ∧ Hid ((is.take k).all mayS = true) ∧ Hid (T.data.toList = textS (is.take k)) ∧ Hid (Below w.heap.size w wr)) (fun _ t _ => is.length - (intOf t).toNat)
  case atStart => exact ⟨0, _, Nat.zero_le _, rfl, rfl, Lib.hid (by simp), Lib.hid rfl, Lib.hid (Below.refl _ _)⟩
  case round =>
    obtain ⟨k, T, hk, rfl, rfl, HAL, HT, B3⟩ := hrel
    obtain ⟨w3, hw3⟩ : ∃ w3, w3 = wr := ⟨_, rfl⟩
    rw [← hw3] at B3 ⊢
    clear hw3
    by_cases hkn : k < is.length
    · obtain ⟨i, hik⟩ : ∃ i, is[k]? = some i := ⟨_, List.getElem?_eq_getElem hkn⟩
      obtain ⟨bb, off, rfl, -, hbl, hcell⟩ := HR.out k i hik
      have HCEL : Hid (∀ X, Below w.heap.size w X → ∀ j v, (inA i).toList[j]? = some v → X.cell? ⟨bb, off + k * 5 + j, none⟩ = some v) := Lib.hid (fun X hb j v hv => (hb.cell (p := ⟨bb, off + k * 5 + j, none⟩) hbl).trans (hcell j v hv))
      have cel := HCEL.out w3 B3.out
      have HIK := Lib.hid hik
      have hTK : is.take (k + 1) = is.take k ++ [i] := by rw [List.take_add_one, HIK.out]; rfl
      have HTX : Hid (textS (is.take (k + 1)) = textS (is.take k) ++ (lineS i ++ [10])) := Lib.hid (by rw [hTK]; unfold textS; rw [List.flatMap_append]; simp)
      have HLP : Hid ((textS (is.take k)).length ≤ 39 * k) := Lib.hid (by have := text_len HAL.out; rw [List.length_take] at this; omega)
      have HTK := Lib.hid hTK
      clear hik hcell hbl hTK
      have hkI : (k : Int) < (is.length : Int) := by omega
      have C2 : Hid (Calls Tryd.prog 24 #[.agg (inA i)] w3 fun e w' => e = .returned (.bool (mayS i)) ∧ Below w3.heap.size w3 w') := Lib.hid (rmay_any i w3)
      go_wp2_with (first | (refine wpList_partW (by kernel_rfl) 39 _ rfl bb (off + k * 5) rfl (inA i) _ cel Tryd.underlying39 rfl (by kernel_rfl) ?_))
      refine (C2.out).mono ?_
      rintro e w4 ⟨rfl, hb4⟩
      have B4 : Hid (Below w.heap.size w w4) := Lib.hid (B3.out.trans (hb4.mono B3.out.size))
      clear hb4 C2 cel
      cases hm : mayS i with
      | false =>
        have HE : Hid (printI is = none) := Lib.hid (by
          unfold printI
          rw [if_neg]
          intro h
          have := List.all_eq_true.1 h i (List.mem_of_getElem? HIK.out)
          rw [hm] at this
          cases this)
        clear hm
        go_wp2_with fail
        go_ret2
        exact ⟨by rw [HE.out]; rfl, B4.out⟩
      | true =>
        have HAL2 : Hid ((is.take (k + 1)).all mayS = true) := Lib.hid (by rw [HTK.out, List.all_append, HAL.out]; simp [hm])
        have cel := HCEL.out w4 B4.out
        have C3 := Lib.hid (rline_any i hm w4 (HL.out w4 B4.out))
        have hls : (⟨(lineS i).toArray⟩ : ByteArray).size + 1 ≤ 39 := by
          have := line_len hm
          rw [List.length_append] at this
          rw [sz_list]
          simpa using this
        have hTs : T.size ≤ 140737488355328 := by rw [sz_list, HT.out]; have := HLP.out; have := HN.out; omega
        have HT2 : Hid ((T ++ ((⟨(lineS i).toArray⟩ : ByteArray) ++ (⟨#[10]⟩ : ByteArray))).data.toList = textS (is.take (k + 1))) := Lib.hid (by rw [cat_list, cat_list, HT.out, HTX.out])
        obtain ⟨LB, hLB⟩ : ∃ LB, (⟨(lineS i).toArray⟩ : ByteArray) = LB := ⟨_, rfl⟩
        rw [hLB] at C3 hls HT2
        have hl1 : LB.size + 1 ≤ 9223372036854775807 := by omega
        have hls2 : (LB ++ (⟨#[10]⟩ : ByteArray)).size = LB.size + 1 := by rw [sz_list, cat_list, List.length_append, ← sz_list]; rfl
        have hl2 : T.size + (LB ++ (⟨#[10]⟩ : ByteArray)).size ≤ 9223372036854775807 := by omega
        clear hm hLB
        have hkb : (k : Int) + 1 ≤ 3518437208833 := by have := HN.out; omega
        go_wp2_with (first | (refine wpList_partW (by kernel_rfl) 39 _ rfl bb (off + k * 5) rfl (inA i) _ cel Tryd.underlying39 rfl (by kernel_rfl) ?_))
        refine (C3.out).mono ?_
        rintro e w5 ⟨rfl, hb5⟩
        have B5 : Hid (Below w.heap.size w w5) := Lib.hid (B4.out.trans (hb5.mono B4.out.size))
        clear hb5 C3 cel B4
        go_wp2_with fail
        first
          | (go_roundw
             case rel => exact ⟨k + 1, _, by omega, rfl, by go_num, HAL2, HT2, B5⟩
             case measure => simp [intOf]; omega)
          | (refine ⟨?_, ?_⟩
             · (repeat apply Exists.intro)
               refine ⟨?_, rfl⟩
               exact ⟨k + 1, _, by omega, rfl, by go_num, HAL2, HT2, B5⟩
             · simp [intOf]; omega)
    · have hke : k = is.length := by omega
      have HE : Hid (printI is = some (textS is)) := Lib.hid (by
        have e1 := HAL.out
        rw [hke, List.take_length] at e1
        unfold printI
        rw [if_pos e1])
      have HET : Hid ((⟨(textS is).toArray⟩ : ByteArray) = T) := Lib.hid ((str_eq _ _).2 (by rw [HT.out, hke, List.take_length]))
      go_wp2_with fail
      go_ret2
      exact ⟨by rw [HE.out]; show _ = Ending.returned (.tuple #[.string ⟨(textS is).toArray⟩, .int .i64 0]); rw [HET.out]; rfl, B3.out⟩
end Go.Proofs.YtmbacegbcccdjaaDoor
