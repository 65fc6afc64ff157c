/-
  Layer 4: the law CodeParts: its walk.
  Conditions: none. (My own text.)
-/
import Derived.Test.YtmbacegbcccdjaaDoorKpa
import Derived.Test.YtmbacegbcccdjaaDoorKfr
namespace Go.Proofs.YtmbacegbcccdjaaDoor
open Go.RowKit Spm
set_option linter.unusedVariables false
set_option linter.unusedSimpArgs false

open Go.Lib hiding intOf
attribute [local irreducible] wpList
theorem flat_lenI (l : List Ins) : (l.flatMap Ins.cells).length = l.length * 5 := by
  induction l with
  | nil => rfl
  | cons i l ih => rw [List.flatMap_cons, List.length_append, ih, List.length_cons]; show 5 + l.length * 5 = _; omega
theorem flat_invI : ∀ (l : List Ins) (j : Nat) (u : Value), (l.flatMap Ins.cells)[j]? = some u → ∃ i x j', l[i]? = some x ∧ x.cells[j']? = some u ∧ j = i * 5 + j'
  | [], j, u, h => by simp at h
  | y :: l, j, u, h => by
    have e : y.cells.length = 5 := rfl
    rw [List.flatMap_cons] at h
    rcases Nat.lt_or_ge j 5 with hl | hl
    · rw [List.getElem?_append_left (by omega)] at h
      exact ⟨0, y, j, rfl, h, by simp⟩
    · rw [List.getElem?_append_right (by omega), e] at h
      obtain ⟨i, x, j', h1, h2, h3⟩ := flat_invI l _ u h
      exact ⟨i + 1, x, j', by simpa using h1, h2, by omega⟩
/-- append(l, rows...): onto a row that the call made. -/
theorem ins_append {w : World} {base : Nat} (hbase : base ≤ w.heap.size) {v : Value} {l0 : List Ins} (hown : w.ownsRow base 39 5 v l0.length (l0.flatMap Ins.cells)) {Pb : Nat → Prop} {A : Option Addr} {c : Nat} {l : List Ins} (h : RowsAt 5 Ins.cells w Pb (.slice A l.length c) l) (hb : (l0.length + l.length) * 40 ≤ 140737488355328) (ty : TypeId) :
    ∃ v' w', (Builtin.append_ #[23, 23] ty #[v, .slice A l.length c]).run Tryd.prog w = .ok v' w' ∧ w'.ownsRow base 39 5 v' (l0 ++ l).length ((l0 ++ l).flatMap Ins.cells) ∧ Below base w w' := by
  obtain ⟨i0, hi, hz0, hz1, hz2⟩ := info_parts ins_info
  obtain ⟨A', c', hv, hlc, hm, hrow⟩ := h
  simp only [Value.slice.injEq, true_and] at hv
  obtain ⟨rfl, rfl⟩ := hv
  have hone : ∀ u ∈ l.flatMap Ins.cells, u.oneCell' = true := by
    intro u hu
    obtain ⟨r, _, hr⟩ := List.mem_flatMap.1 hu
    simp only [Ins.cells, List.mem_cons, List.not_mem_nil, or_false] at hr
    rcases hr with rfl | rfl | rfl | rfl | rfl <;> rfl
  cases A with
  | none =>
    obtain rfl : l = [] := by
      cases l with
      | nil => rfl
      | cons x l => obtain ⟨b, off, h1, _⟩ := hrow 0 x rfl; cases h1
    refine ⟨v, w, ?_, by simpa using hown, Below.refl _ _⟩
    rcases hown.2 with ⟨rfl, hn⟩ | ⟨g, cap, cur, rfl, _, hg, hnc, hcm, _⟩
    · simp [Builtin.append_, run_underlying Tryd.underlying23, sizeOf, typeInfo, hi, Builtin.lenOf, Builtin.firstCells, storeCells, loadCells]
    · unfold maxLen at hcm
      have h1 : l0.length ≤ 9223372036854775807 := by omega
      simp [Builtin.append_, run_underlying Tryd.underlying23, sizeOf, typeInfo, hi, Builtin.lenOf, Builtin.firstCells, storeCells, loadCells, hnc, h1]
  | some a =>
    obtain ⟨v', w', h1, h2, h3, _⟩ := run_append_own (P := Tryd.prog) (w := w) base 23 ty 39 i0 _ 5 40 Tryd.underlying23 hi hz0 hz1 hz2 rfl (by decide) v l0.length (l0.flatMap Ins.cells) hown
      a l.length c (l.flatMap Ins.cells) (flat_lenI l) (fun j u hj => by
        obtain ⟨i, x, j', e1, e2, rfl⟩ := flat_invI l j u hj
        obtain ⟨b, off, h1, _, _, h4⟩ := hrow i x e1
        simp only [Option.some.injEq] at h1
        subst h1
        rw [Addr.add_lit, ← Nat.add_assoc]
        exact h4 j' u e2) hone (by unfold maxLen; omega) (by omega) hbase
    exact ⟨v', w', h1, by rw [List.length_append, List.flatMap_append]; exact h2, (Below.refl _ _).grown h3 hbase (fun k hk => (hown.lt k hk).1)⟩
theorem enc_two (a b : List Ins) : encodeS (a ++ b) = (match encodeS a, encodeS b with | some x, some y => some (x ++ y) | _, _ => none) := by
  unfold encodeS
  rw [List.all_append]
  by_cases h1 : a.all mayS = true <;> by_cases h2 : b.all mayS = true <;> simp [h1, h2]
theorem prt_two (a b : List Ins) : printI (a ++ b) = (match printI a, printI b with | some x, some y => some (x ++ y) | _, _ => none) := by
  unfold printI textS
  rw [List.all_append]
  by_cases h1 : a.all mayS = true <;> by_cases h2 : b.all mayS = true <;> simp [h1, h2]
theorem both_none (a : List Ins) : (encodeS a = none ∧ printI a = none) ∨ ∃ x y, encodeS a = some x ∧ printI a = some y ∧ x.length = 8 * a.length ∧ y.length ≤ 64 * a.length := by
  unfold encodeS printI
  by_cases h : a.all mayS = true
  · exact .inr ⟨_, _, if_pos h, if_pos h, encs_len a, text_len h⟩
  · exact .inl ⟨if_neg h, if_neg h⟩
theorem strB_app (x y : List UInt8) : strB (x ++ y) = strB x ++ strB y := by
  refine (str_eq _ _).2 ?_
  rw [ByteArray.data_append]
  simp [strB]
theorem strB_size (x : List UInt8) : (strB x).size = x.length := by simp [strB, ByteArray.size]
set_option maxRecDepth 100000 in
set_option maxHeartbeats 4000000 in
theorem parts_walk04 (va vb : Value) (la lb : List Ins) (hsa : la.length + lb.length ≤ 1048576) (w : World) (hra : RowsAt 5 Ins.cells w (fun k => k < w.heap.size) va la) (hrb : RowsAt 5 Ins.cells w (fun k => k < w.heap.size) vb lb) (hL : LaidW w) :
    Calls Tryd.prog 8 #[va, vb] w fun e w' => e = .returned (.bool true) ∧ Below w.heap.size w w' := by
  have HL := Lib.hid (fun (X : World) (hb : Below w.heap.size w X) => hL.below hb)
  clear hL
  have C1 := Lib.hid (awake04 w (HL.out w (Below.refl _ _)))
  obtain ⟨Aa, ca, hva, _⟩ := id hra
  obtain ⟨Ab, cb, hvb, _⟩ := id hrb
  subst hva hvb
  have HRA := Lib.hid (fun (X : World) (hb : Below w.heap.size w X) => hra.lift hb hb.size)
  have HRB := Lib.hid (fun (X : World) (hb : Below w.heap.size w X) => hrb.lift hb hb.size)
  have HEC0 := Lib.hid (enc_two la lb)
  have HPC0 := Lib.hid (prt_two la lb)
  have HBA := Lib.hid (both_none la)
  have HBB := Lib.hid (both_none lb)
  clear hra hrb
  go_enter Tryd.func8, Tryd.ntmps8
  go_wp2_with fail
  refine (C1.out).mono ?_
  rintro e w1 ⟨rfl, hb1⟩
  have B1 := Lib.hid hb1
  clear hb1 C1
  have CA := Lib.hid (fun ty => ins_append (w := w1) (base := w.heap.size) B1.out.size (v := .slice none 0 0) (l0 := []) (World.ownsRow_nil _ _ _ _) (HRA.out w1 B1.out) (by simp only [List.length_nil]; omega) ty)
  obtain ⟨va', wa, hra1, hoa, hba⟩ := CA.out 23
  have CB := Lib.hid (fun ty => ins_append (w := wa) (base := w.heap.size) (B1.out.trans hba).size (v := va') (l0 := la) (by simpa using hoa) (HRB.out wa (B1.out.trans hba)) (by omega) ty)
  obtain ⟨vl, w2, hrb1, hob, hbb⟩ := CB.out 23
  have RA : Hid (∀ ty, (Builtin.append_ #[23, 23] ty #[.slice none 0 0, .slice Aa la.length ca]).run Tryd.prog w1 = .ok va' wa) := Lib.hid (fun ty => hra1)
  have RB : Hid (∀ ty, (Builtin.append_ #[23, 23] ty #[va', .slice Ab lb.length cb]).run Tryd.prog wa = .ok vl w2) := Lib.hid (fun ty => hrb1)
  have B2 : Hid (Below w.heap.size w w2) := Lib.hid ((B1.out.trans hba).trans hbb)
  have RL := Lib.hid (rows_own hob)
  clear CA CB hra1 hrb1 hoa hob hba hbb
  go_wp2_with (at_builtin; first | (refine Lib.wpList_append_run _ rfl _ _ _ _ rfl _ _ rfl rfl _ _ (RA.out _) ?_) | (refine Lib.wpList_append_run _ rfl _ _ _ _ rfl _ _ rfl rfl _ _ (RB.out _) ?_))
  clear RA RB
  rcases HBA.out with ⟨ea, pa⟩ | ⟨xa, ya, ea, pa, lxa, lya⟩
  · have HEA := Lib.hid ea
    have HPA := Lib.hid pa
    have HEC : Hid (encodeS (la ++ lb) = none) := Lib.hid (by rw [HEC0.out, ea])
    have HPC : Hid (printI (la ++ lb) = none) := Lib.hid (by rw [HPC0.out, pa])
    clear ea pa
    rcases HBB.out with ⟨eb, pb⟩ | ⟨xb, yb, eb, pb, lxb, lyb⟩
    · have HEB := Lib.hid eb
      have HPB := Lib.hid pb
      clear eb pb
      have C3 := Lib.hid (encode_any la (by first | omega | (rw [List.length_append]; omega)) (.slice Aa la.length ca) w2 (HRA.out w2 B2.out))
      rw [HEA.out] at C3
      go_wp2_with fail
      refine (C3.out).mono ?_
      rintro e w3 ⟨he3, hb3⟩
      have he3' : e = .returned (.tuple #[.slice none 0 0, .int .i64 40]) := he3
      subst he3'
      clear he3
      have B3 : Hid (Below w.heap.size w w3) := Lib.hid (B2.out.trans (hb3.mono B2.out.size))
      have K3 : Hid (Below w2.heap.size w2 w3) := Lib.hid hb3
      clear hb3 C3
      have C4 := Lib.hid (encode_any lb (by first | omega | (rw [List.length_append]; omega)) (.slice Ab lb.length cb) w3 (HRB.out w3 B3.out))
      rw [HEB.out] at C4
      go_wp2_with fail
      refine (C4.out).mono ?_
      rintro e w4 ⟨he4, hb4⟩
      have he4' : e = .returned (.tuple #[.slice none 0 0, .int .i64 40]) := he4
      subst he4'
      clear he4
      have B4 : Hid (Below w.heap.size w w4) := Lib.hid (B3.out.trans (hb4.mono B3.out.size))
      have K4 : Hid (Below w3.heap.size w3 w4) := Lib.hid hb4
      clear hb4 C4
      have RL4 := Lib.hid (RL.out.lift (K3.out.trans (K4.out.mono K3.out.size)) (K3.out.trans (K4.out.mono K3.out.size)).size)
      have C5 := Lib.hid (encode_any (la ++ lb) (by first | omega | (rw [List.length_append]; omega)) vl w4 (RL4.out))
      rw [HEC.out] at C5
      go_wp2_with fail
      refine (C5.out).mono ?_
      rintro e w5 ⟨he5, hb5⟩
      have he5' : e = .returned (.tuple #[.slice none 0 0, .int .i64 40]) := he5
      subst he5'
      clear he5
      have B5 : Hid (Below w.heap.size w w5) := Lib.hid (B4.out.trans (hb5.mono B4.out.size))
      have K5 : Hid (Below w4.heap.size w4 w5) := Lib.hid hb5
      clear hb5 C5
      have C6 := Lib.hid (print_any la (by first | omega | (rw [List.length_append]; omega)) (.slice Aa la.length ca) w5 (HRA.out w5 B5.out) (HL.out w5 B5.out))
      rw [HPA.out] at C6
      go_wp2_with fail
      refine (C6.out).mono ?_
      rintro e w6 ⟨he6, hb6⟩
      have he6' : e = .returned (.tuple #[.string ⟨#[]⟩, .int .i64 40]) := he6
      subst he6'
      clear he6
      have B6 : Hid (Below w.heap.size w w6) := Lib.hid (B5.out.trans (hb6.mono B5.out.size))
      have K6 : Hid (Below w5.heap.size w5 w6) := Lib.hid hb6
      clear hb6 C6
      have C7 := Lib.hid (print_any lb (by first | omega | (rw [List.length_append]; omega)) (.slice Ab lb.length cb) w6 (HRB.out w6 B6.out) (HL.out w6 B6.out))
      rw [HPB.out] at C7
      go_wp2_with fail
      refine (C7.out).mono ?_
      rintro e w7 ⟨he7, hb7⟩
      have he7' : e = .returned (.tuple #[.string ⟨#[]⟩, .int .i64 40]) := he7
      subst he7'
      clear he7
      have B7 : Hid (Below w.heap.size w w7) := Lib.hid (B6.out.trans (hb7.mono B6.out.size))
      have K7 : Hid (Below w6.heap.size w6 w7) := Lib.hid hb7
      clear hb7 C7
      have RL7 := Lib.hid (RL4.out.lift (K5.out.trans ((K6.out.trans (K7.out.mono K6.out.size)).mono K5.out.size)) (K5.out.trans ((K6.out.trans (K7.out.mono K6.out.size)).mono K5.out.size)).size)
      have C8 := Lib.hid (print_any (la ++ lb) (by first | omega | (rw [List.length_append]; omega)) vl w7 (RL7.out) (HL.out w7 B7.out))
      rw [HPC.out] at C8
      go_wp2_with fail
      refine (C8.out).mono ?_
      rintro e w8 ⟨he8, hb8⟩
      have he8' : e = .returned (.tuple #[.string ⟨#[]⟩, .int .i64 40]) := he8
      subst he8'
      clear he8
      have B8 : Hid (Below w.heap.size w w8) := Lib.hid (B7.out.trans (hb8.mono B7.out.size))
      have K8 : Hid (Below w7.heap.size w7 w8) := Lib.hid hb8
      clear hb8 C8
      go_wp2_with fail
      go_ret
      exact ⟨by first | rfl | simp, B8.out⟩
    · have HEB := Lib.hid eb
      have HPB := Lib.hid pb
      clear eb pb
      have C3 := Lib.hid (encode_any la (by first | omega | (rw [List.length_append]; omega)) (.slice Aa la.length ca) w2 (HRA.out w2 B2.out))
      rw [HEA.out] at C3
      go_wp2_with fail
      refine (C3.out).mono ?_
      rintro e w3 ⟨he3, hb3⟩
      have he3' : e = .returned (.tuple #[.slice none 0 0, .int .i64 40]) := he3
      subst he3'
      clear he3
      have B3 : Hid (Below w.heap.size w w3) := Lib.hid (B2.out.trans (hb3.mono B2.out.size))
      have K3 : Hid (Below w2.heap.size w2 w3) := Lib.hid hb3
      clear hb3 C3
      have C4 := Lib.hid (encode_any lb (by first | omega | (rw [List.length_append]; omega)) (.slice Ab lb.length cb) w3 (HRB.out w3 B3.out))
      rw [HEB.out] at C4
      go_wp2_with fail
      refine (C4.out).mono ?_
      rintro e w4 ⟨he4, hb4⟩
      obtain ⟨v4, rfl, hv4⟩ := he4
      have O4 := Lib.hid hv4
      clear hv4
      have B4 : Hid (Below w.heap.size w w4) := Lib.hid (B3.out.trans (hb4.mono B3.out.size))
      have K4 : Hid (Below w3.heap.size w3 w4) := Lib.hid hb4
      clear hb4 C4
      have RL4 := Lib.hid (RL.out.lift (K3.out.trans (K4.out.mono K3.out.size)) (K3.out.trans (K4.out.mono K3.out.size)).size)
      have C5 := Lib.hid (encode_any (la ++ lb) (by first | omega | (rw [List.length_append]; omega)) vl w4 (RL4.out))
      rw [HEC.out] at C5
      go_wp2_with fail
      refine (C5.out).mono ?_
      rintro e w5 ⟨he5, hb5⟩
      have he5' : e = .returned (.tuple #[.slice none 0 0, .int .i64 40]) := he5
      subst he5'
      clear he5
      have B5 : Hid (Below w.heap.size w w5) := Lib.hid (B4.out.trans (hb5.mono B4.out.size))
      have K5 : Hid (Below w4.heap.size w4 w5) := Lib.hid hb5
      clear hb5 C5
      have C6 := Lib.hid (print_any la (by first | omega | (rw [List.length_append]; omega)) (.slice Aa la.length ca) w5 (HRA.out w5 B5.out) (HL.out w5 B5.out))
      rw [HPA.out] at C6
      go_wp2_with fail
      refine (C6.out).mono ?_
      rintro e w6 ⟨he6, hb6⟩
      have he6' : e = .returned (.tuple #[.string ⟨#[]⟩, .int .i64 40]) := he6
      subst he6'
      clear he6
      have B6 : Hid (Below w.heap.size w w6) := Lib.hid (B5.out.trans (hb6.mono B5.out.size))
      have K6 : Hid (Below w5.heap.size w5 w6) := Lib.hid hb6
      clear hb6 C6
      have C7 := Lib.hid (print_any lb (by first | omega | (rw [List.length_append]; omega)) (.slice Ab lb.length cb) w6 (HRB.out w6 B6.out) (HL.out w6 B6.out))
      rw [HPB.out] at C7
      go_wp2_with fail
      refine (C7.out).mono ?_
      rintro e w7 ⟨he7, hb7⟩
      have he7' : e = .returned (.tuple #[.string ⟨(yb).toArray⟩, .int .i64 0]) := he7
      subst he7'
      clear he7
      have B7 : Hid (Below w.heap.size w w7) := Lib.hid (B6.out.trans (hb7.mono B6.out.size))
      have K7 : Hid (Below w6.heap.size w6 w7) := Lib.hid hb7
      clear hb7 C7
      have RL7 := Lib.hid (RL4.out.lift (K5.out.trans ((K6.out.trans (K7.out.mono K6.out.size)).mono K5.out.size)) (K5.out.trans ((K6.out.trans (K7.out.mono K6.out.size)).mono K5.out.size)).size)
      have C8 := Lib.hid (print_any (la ++ lb) (by first | omega | (rw [List.length_append]; omega)) vl w7 (RL7.out) (HL.out w7 B7.out))
      rw [HPC.out] at C8
      go_wp2_with fail
      refine (C8.out).mono ?_
      rintro e w8 ⟨he8, hb8⟩
      have he8' : e = .returned (.tuple #[.string ⟨#[]⟩, .int .i64 40]) := he8
      subst he8'
      clear he8
      have B8 : Hid (Below w.heap.size w w8) := Lib.hid (B7.out.trans (hb8.mono B7.out.size))
      have K8 : Hid (Below w7.heap.size w7 w8) := Lib.hid hb8
      clear hb8 C8
      go_wp2_with fail
      go_ret
      exact ⟨by first | rfl | simp, B8.out⟩
  · have HEA := Lib.hid ea
    have HPA := Lib.hid pa
    rcases HBB.out with ⟨eb, pb⟩ | ⟨xb, yb, eb, pb, lxb, lyb⟩
    · have HEB := Lib.hid eb
      have HPB := Lib.hid pb
      have HEC : Hid (encodeS (la ++ lb) = none) := Lib.hid (by rw [HEC0.out, ea, eb])
      have HPC : Hid (printI (la ++ lb) = none) := Lib.hid (by rw [HPC0.out, pa, pb])
      clear ea pa eb pb
      have C3 := Lib.hid (encode_any la (by first | omega | (rw [List.length_append]; omega)) (.slice Aa la.length ca) w2 (HRA.out w2 B2.out))
      rw [HEA.out] at C3
      go_wp2_with fail
      refine (C3.out).mono ?_
      rintro e w3 ⟨he3, hb3⟩
      obtain ⟨v3, rfl, hv3⟩ := he3
      have O3 := Lib.hid hv3
      clear hv3
      have B3 : Hid (Below w.heap.size w w3) := Lib.hid (B2.out.trans (hb3.mono B2.out.size))
      have K3 : Hid (Below w2.heap.size w2 w3) := Lib.hid hb3
      clear hb3 C3
      have C4 := Lib.hid (encode_any lb (by first | omega | (rw [List.length_append]; omega)) (.slice Ab lb.length cb) w3 (HRB.out w3 B3.out))
      rw [HEB.out] at C4
      go_wp2_with fail
      refine (C4.out).mono ?_
      rintro e w4 ⟨he4, hb4⟩
      have he4' : e = .returned (.tuple #[.slice none 0 0, .int .i64 40]) := he4
      subst he4'
      clear he4
      have B4 : Hid (Below w.heap.size w w4) := Lib.hid (B3.out.trans (hb4.mono B3.out.size))
      have K4 : Hid (Below w3.heap.size w3 w4) := Lib.hid hb4
      clear hb4 C4
      have RL4 := Lib.hid (RL.out.lift (K3.out.trans (K4.out.mono K3.out.size)) (K3.out.trans (K4.out.mono K3.out.size)).size)
      have C5 := Lib.hid (encode_any (la ++ lb) (by first | omega | (rw [List.length_append]; omega)) vl w4 (RL4.out))
      rw [HEC.out] at C5
      go_wp2_with fail
      refine (C5.out).mono ?_
      rintro e w5 ⟨he5, hb5⟩
      have he5' : e = .returned (.tuple #[.slice none 0 0, .int .i64 40]) := he5
      subst he5'
      clear he5
      have B5 : Hid (Below w.heap.size w w5) := Lib.hid (B4.out.trans (hb5.mono B4.out.size))
      have K5 : Hid (Below w4.heap.size w4 w5) := Lib.hid hb5
      clear hb5 C5
      have C6 := Lib.hid (print_any la (by first | omega | (rw [List.length_append]; omega)) (.slice Aa la.length ca) w5 (HRA.out w5 B5.out) (HL.out w5 B5.out))
      rw [HPA.out] at C6
      go_wp2_with fail
      refine (C6.out).mono ?_
      rintro e w6 ⟨he6, hb6⟩
      have he6' : e = .returned (.tuple #[.string ⟨(ya).toArray⟩, .int .i64 0]) := he6
      subst he6'
      clear he6
      have B6 : Hid (Below w.heap.size w w6) := Lib.hid (B5.out.trans (hb6.mono B5.out.size))
      have K6 : Hid (Below w5.heap.size w5 w6) := Lib.hid hb6
      clear hb6 C6
      have C7 := Lib.hid (print_any lb (by first | omega | (rw [List.length_append]; omega)) (.slice Ab lb.length cb) w6 (HRB.out w6 B6.out) (HL.out w6 B6.out))
      rw [HPB.out] at C7
      go_wp2_with fail
      refine (C7.out).mono ?_
      rintro e w7 ⟨he7, hb7⟩
      have he7' : e = .returned (.tuple #[.string ⟨#[]⟩, .int .i64 40]) := he7
      subst he7'
      clear he7
      have B7 : Hid (Below w.heap.size w w7) := Lib.hid (B6.out.trans (hb7.mono B6.out.size))
      have K7 : Hid (Below w6.heap.size w6 w7) := Lib.hid hb7
      clear hb7 C7
      have RL7 := Lib.hid (RL4.out.lift (K5.out.trans ((K6.out.trans (K7.out.mono K6.out.size)).mono K5.out.size)) (K5.out.trans ((K6.out.trans (K7.out.mono K6.out.size)).mono K5.out.size)).size)
      have C8 := Lib.hid (print_any (la ++ lb) (by first | omega | (rw [List.length_append]; omega)) vl w7 (RL7.out) (HL.out w7 B7.out))
      rw [HPC.out] at C8
      go_wp2_with fail
      refine (C8.out).mono ?_
      rintro e w8 ⟨he8, hb8⟩
      have he8' : e = .returned (.tuple #[.string ⟨#[]⟩, .int .i64 40]) := he8
      subst he8'
      clear he8
      have B8 : Hid (Below w.heap.size w w8) := Lib.hid (B7.out.trans (hb8.mono B7.out.size))
      have K8 : Hid (Below w7.heap.size w7 w8) := Lib.hid hb8
      clear hb8 C8
      go_wp2_with fail
      go_ret
      exact ⟨by first | rfl | simp, B8.out⟩
    · have HEB := Lib.hid eb
      have HPB := Lib.hid pb
      have HEC : Hid (encodeS (la ++ lb) = some (xa ++ xb)) := Lib.hid (by rw [HEC0.out, ea, eb])
      have HPC : Hid (printI (la ++ lb) = some (ya ++ yb)) := Lib.hid (by rw [HPC0.out, pa, pb])
      have HLX : Hid (xa.length + xb.length + (ya.length + yb.length) ≤ 1073741824) := Lib.hid (by omega)
      clear ea pa eb pb lxa lxb lya lyb
      have C3 := Lib.hid (encode_any la (by first | omega | (rw [List.length_append]; omega)) (.slice Aa la.length ca) w2 (HRA.out w2 B2.out))
      rw [HEA.out] at C3
      go_wp2_with fail
      refine (C3.out).mono ?_
      rintro e w3 ⟨he3, hb3⟩
      obtain ⟨v3, rfl, hv3⟩ := he3
      have O3 := Lib.hid hv3
      clear hv3
      have B3 : Hid (Below w.heap.size w w3) := Lib.hid (B2.out.trans (hb3.mono B2.out.size))
      have K3 : Hid (Below w2.heap.size w2 w3) := Lib.hid hb3
      clear hb3 C3
      have C4 := Lib.hid (encode_any lb (by first | omega | (rw [List.length_append]; omega)) (.slice Ab lb.length cb) w3 (HRB.out w3 B3.out))
      rw [HEB.out] at C4
      go_wp2_with fail
      refine (C4.out).mono ?_
      rintro e w4 ⟨he4, hb4⟩
      obtain ⟨v4, rfl, hv4⟩ := he4
      have O4 := Lib.hid hv4
      clear hv4
      have B4 : Hid (Below w.heap.size w w4) := Lib.hid (B3.out.trans (hb4.mono B3.out.size))
      have K4 : Hid (Below w3.heap.size w3 w4) := Lib.hid hb4
      clear hb4 C4
      have RL4 := Lib.hid (RL.out.lift (K3.out.trans (K4.out.mono K3.out.size)) (K3.out.trans (K4.out.mono K3.out.size)).size)
      have C5 := Lib.hid (encode_any (la ++ lb) (by first | omega | (rw [List.length_append]; omega)) vl w4 (RL4.out))
      rw [HEC.out] at C5
      go_wp2_with fail
      refine (C5.out).mono ?_
      rintro e w5 ⟨he5, hb5⟩
      obtain ⟨v5, rfl, hv5⟩ := he5
      have O5 := Lib.hid hv5
      clear hv5
      have B5 : Hid (Below w.heap.size w w5) := Lib.hid (B4.out.trans (hb5.mono B4.out.size))
      have K5 : Hid (Below w4.heap.size w4 w5) := Lib.hid hb5
      clear hb5 C5
      have C6 := Lib.hid (print_any la (by first | omega | (rw [List.length_append]; omega)) (.slice Aa la.length ca) w5 (HRA.out w5 B5.out) (HL.out w5 B5.out))
      rw [HPA.out] at C6
      go_wp2_with fail
      refine (C6.out).mono ?_
      rintro e w6 ⟨he6, hb6⟩
      have he6' : e = .returned (.tuple #[.string ⟨(ya).toArray⟩, .int .i64 0]) := he6
      subst he6'
      clear he6
      have B6 : Hid (Below w.heap.size w w6) := Lib.hid (B5.out.trans (hb6.mono B5.out.size))
      have K6 : Hid (Below w5.heap.size w5 w6) := Lib.hid hb6
      clear hb6 C6
      have C7 := Lib.hid (print_any lb (by first | omega | (rw [List.length_append]; omega)) (.slice Ab lb.length cb) w6 (HRB.out w6 B6.out) (HL.out w6 B6.out))
      rw [HPB.out] at C7
      go_wp2_with fail
      refine (C7.out).mono ?_
      rintro e w7 ⟨he7, hb7⟩
      have he7' : e = .returned (.tuple #[.string ⟨(yb).toArray⟩, .int .i64 0]) := he7
      subst he7'
      clear he7
      have B7 : Hid (Below w.heap.size w w7) := Lib.hid (B6.out.trans (hb7.mono B6.out.size))
      have K7 : Hid (Below w6.heap.size w6 w7) := Lib.hid hb7
      clear hb7 C7
      have RL7 := Lib.hid (RL4.out.lift (K5.out.trans ((K6.out.trans (K7.out.mono K6.out.size)).mono K5.out.size)) (K5.out.trans ((K6.out.trans (K7.out.mono K6.out.size)).mono K5.out.size)).size)
      have C8 := Lib.hid (print_any (la ++ lb) (by first | omega | (rw [List.length_append]; omega)) vl w7 (RL7.out) (HL.out w7 B7.out))
      rw [HPC.out] at C8
      go_wp2_with fail
      refine (C8.out).mono ?_
      rintro e w8 ⟨he8, hb8⟩
      have he8' : e = .returned (.tuple #[.string ⟨(ya ++ yb).toArray⟩, .int .i64 0]) := he8
      subst he8'
      clear he8
      have B8 : Hid (Below w.heap.size w w8) := Lib.hid (B7.out.trans (hb8.mono B7.out.size))
      have K8 : Hid (Below w7.heap.size w7 w8) := Lib.hid hb8
      clear hb8 C8
      have K38 : Hid (Below w5.heap.size w5 w8) := Lib.hid (K6.out.trans ((K7.out.trans (K8.out.mono K7.out.size)).mono K6.out.size))
      have K48 : Hid (Below w4.heap.size w4 w8) := Lib.hid (K5.out.trans (K38.out.mono K5.out.size))
      have K58 : Hid (Below w3.heap.size w3 w8) := Lib.hid (K4.out.trans (K48.out.mono K4.out.size))
      have P3 := Lib.hid (owns_block O3.out (fun g hg => K58.out.block g (O3.out.lt g hg).2))
      have P4 := Lib.hid (owns_block O4.out (fun g hg => K48.out.block g (O4.out.lt g hg).2))
      have P5 := Lib.hid (owns_block O5.out (fun g hg => K38.out.block g (O5.out.lt g hg).2))
      have cv3 := Bys.conv (show Bys w8 _ v3 xa from P3.out)
      have cv4 := Bys.conv (show Bys w8 _ v4 xb from P4.out)
      have cv5 := Bys.conv (show Bys w8 _ v5 (xa ++ xb) from P5.out)
      rw [strB_app] at cv5
      have hs1 : (strB xa).size + (strB xb).size ≤ 9223372036854775807 := by rw [strB_size, strB_size]; have := HLX.out; omega
      have hs2 : (strB ya).size + (strB yb).size ≤ 9223372036854775807 := by rw [strB_size, strB_size]; have := HLX.out; omega
      have ey : (⟨(ya ++ yb).toArray⟩ : ByteArray) = strB ya ++ strB yb := strB_app ya yb
      rw [ey]
      have ea : (⟨ya.toArray⟩ : ByteArray) = strB ya := rfl
      have eb : (⟨yb.toArray⟩ : ByteArray) = strB yb := rfl
      rw [ea, eb]
      clear ea eb ey P3 P4 P5 K38 K48 K58 O3 O4 O5 RL RL4 RL7 K3 K4 K5 K6 K7 K8
      generalize strB xa = s1 at cv3 cv5 hs1
      generalize strB xb = s2 at cv4 cv5 hs1
      generalize strB ya = s3 at hs2 ⊢
      generalize strB yb = s4 at hs2 ⊢
      go_wp2_with fail
      go_ret
      exact ⟨by first | rfl | simp, B8.out⟩
end Go.Proofs.YtmbacegbcccdjaaDoor
