/-
  Layer 4: the program's Print: what it computes.
  Conditions: none. (My own text.)
-/
import Derived.Test.YtmbacegbcccdjaaDoorKnk
import Derived.Test.YtmbacegbcccdjaaDoorRgd
import Derived.Test.YtmbacegbcccdjaaDoorKnh
import Derived.Lib.ConvBytes
namespace Go.Proofs.YtmbacegbcccdjaaDoor
open Go.RowKit Spm
set_option linter.unusedVariables false
set_option linter.unusedSimpArgs false

open Go.Lib hiding intOf
attribute [local irreducible] wpList
/-- A word of a line, with the blank ahead of it. -/
def wdS (i : Ins) (f : UInt8) : List UInt8 := [32] ++ (if f = 110 then [] else [114]) ++ itoa (prt i (kOf f))
def lineS (i : Ins) : List UInt8 := (nameS i.op).data.toList ++ (formS i.op).data.toList.flatMap (wdS i)
/-- The text of some instructions. -/
def textS (is : List Ins) : List UInt8 := is.flatMap fun i => lineS i ++ [10]
def printI (is : List Ins) : Option (List UInt8) := if is.all mayS = true then some (textS is) else none
def PrtE (o : Option (List UInt8)) (w : World) (e : Ending) (w' : World) : Prop := (match o with
  | some l => e = .returned (.tuple #[.string ⟨l.toArray⟩, .int .i64 0])
  | none => e = .returned (.tuple #[.string ⟨#[]⟩, .int .i64 40])) ∧ Below w.heap.size w w'
theorem flat_le {α : Type} (f : α → List UInt8) (K : Nat) : ∀ (l : List α), (∀ a ∈ l, (f a).length ≤ K) → (l.flatMap f).length ≤ K * l.length
  | [], _ => by simp
  | a :: l, h => by
    have h1 := flat_le f K l (fun x hx => h x (List.mem_cons_of_mem _ hx))
    have h2 := h a (List.mem_cons_self ..)
    rw [List.flatMap_cons, List.length_append, List.length_cons, Nat.mul_succ]
    omega
theorem dec_len : ∀ (k u : Nat), u < 10 ^ (k + 1) → (decDigits u).length ≤ k + 1
  | 0, u, h => by
    rw [decDigits, dif_pos (by simpa using h)]
    simp
  | k + 1, u, h => by
    rw [decDigits]
    by_cases h1 : u < 10
    · rw [dif_pos h1]; simp
    · rw [dif_neg h1]
      have h2 := dec_len k (u / 10) (by rw [Nat.pow_succ] at h; omega)
      simp only [List.length_append, List.length_cons, List.length_nil]
      omega
theorem itoa_len {n : Int} (h0 : -2147483648 ≤ n) (h1 : n ≤ 2147483647) : (itoa n).length ≤ 11 := by
  unfold itoa
  split
  · have := dec_len 9 (-n).toNat (by omega)
    first | (simp only [List.length_cons]; omega) | (simp only [List.length_append, List.length_cons, List.length_nil]; omega) | (have e := dec_len 9 n.natAbs (by omega); simp only [List.length_cons]; omega)
  · have := dec_len 9 n.toNat (by omega)
    omega
theorem prt_rng {i : Ins} (h : mayS i = true) (k : Nat) : -2147483648 ≤ prt i k ∧ prt i k ≤ 2147483647 := by
  obtain ⟨_, ⟨a1, a2⟩, ⟨b1, b2⟩, ⟨c1, c2⟩, n1, n2⟩ := may_rng h
  unfold prt
  match k with
  | 0 => simp; omega
  | 1 => simp; omega
  | 2 => simp; omega
  | k + 3 =>
    have : [i.a, i.b, i.c, i.n].getD (k + 3) i.n = i.n := by
      match k with
      | 0 => rfl
      | k + 1 => rfl
    rw [this]
    exact ⟨n1, n2⟩
theorem word_len {i : Ins} (h : mayS i = true) (f : UInt8) : (wdS i f).length ≤ 16 := by
  obtain ⟨h1, h2⟩ := prt_rng h (kOf f)
  have := itoa_len h1 h2
  unfold wdS
  split <;> simp only [List.length_append, List.length_cons, List.length_nil] <;> omega
theorem opN_len : ∀ k : Fin 23, (opN k.val).length ≤ 5 := by decide +kernel
theorem words_len {i : Ins} (h : mayS i = true) (l : List UInt8) : (l.flatMap (wdS i)).length ≤ 16 * l.length := flat_le _ _ _ (fun f _ => word_len h f)
/-- What a letter's word takes at most. -/
def wtS (f : UInt8) : Nat := if f = 110 then 12 else 4
theorem itoa_len2 {n : Int} (h0 : 0 ≤ n) (h1 : n ≤ 15) : (itoa n).length ≤ 2 := by
  unfold itoa
  rw [if_neg (by omega)]
  exact dec_len 1 n.toNat (by omega)
theorem wdS_wt {i : Ins} (h : mayS i = true) {f : UInt8} (hf : isL f = true) : (wdS i f).length ≤ wtS f := by
  obtain ⟨_, ⟨a1, a2⟩, ⟨b1, b2⟩, ⟨c1, c2⟩, n1, n2⟩ := may_rng h
  unfold isL at hf
  simp only [Bool.or_eq_true, beq_iff_eq] at hf
  unfold wdS wtS
  rcases hf with ((rfl | rfl) | rfl) | rfl
  · rw [if_neg (by decide), if_neg (by decide), show prt i (kOf 97) = i.a from rfl]
    have := itoa_len2 a1 (by omega)
    simp only [List.length_append, List.length_cons, List.length_nil]
    omega
  · rw [if_neg (by decide), if_neg (by decide), show prt i (kOf 98) = i.b from rfl]
    have := itoa_len2 b1 (by omega)
    simp only [List.length_append, List.length_cons, List.length_nil]
    omega
  · rw [if_neg (by decide), if_neg (by decide), show prt i (kOf 99) = i.c from rfl]
    have := itoa_len2 c1 (by omega)
    simp only [List.length_append, List.length_cons, List.length_nil]
    omega
  · rw [if_pos rfl, if_pos rfl, show prt i (kOf 110) = i.n from rfl]
    have := itoa_len n1 n2
    simp only [List.length_append, List.length_cons, List.length_nil]
    omega
theorem words_wt {i : Ins} (h : mayS i = true) : ∀ l : List UInt8, l.all isL = true → (l.flatMap (wdS i)).length ≤ (l.map wtS).sum
  | [], _ => by simp
  | f :: l, hl => by
    rw [List.all_cons, Bool.and_eq_true] at hl
    have h1 := words_wt h l hl.2
    have h2 := wdS_wt h hl.1
    rw [List.flatMap_cons, List.length_append, List.map_cons, List.sum_cons]
    omega
theorem opF_wt : ∀ k : Fin 23, ((opF k.val).map wtS).sum ≤ 20 := by decide +kernel
theorem line_len {i : Ins} (h : mayS i = true) : (lineS i ++ [10]).length ≤ 39 := by
  obtain ⟨⟨o1, o2⟩, _⟩ := may_rng h
  obtain ⟨m, hm⟩ : ∃ m : Nat, i.op = m := ⟨i.op.toNat, by omega⟩
  have h1 := opN_len ⟨m, by omega⟩
  have h2 := opF_wt ⟨m, by omega⟩
  have h3 := words_wt h (opF m) (opF_isL ⟨m, by omega⟩)
  unfold lineS
  rw [hm]
  unfold opN opF at *
  simp only [List.length_append, List.length_cons, List.length_nil] at *
  omega
theorem text_len {is : List Ins} (h : is.all mayS = true) : (textS is).length ≤ 39 * is.length :=
  flat_le _ _ _ (fun i hi => line_len (List.all_eq_true.1 h i hi))
theorem inA_prt (i : Ins) (k : Nat) (hk : k < 4) : (inA i)[1 + k]? = some (.int .i64 (prt i k)) := by
  obtain rfl | rfl | rfl | rfl := ltr_cases hk <;> rfl
theorem frz_kind {CS c : Array Value} {z : Nat} {T : TypeId} : Obj.cells CS T (z, z + 1) ≠ Obj.cells c T (0, 0) := fun e => by
  injection e with _ _ e
  simp at e
set_option maxRecDepth 100000 in
set_option maxHeartbeats 4000000 in
theorem print_any (is : List Ins) (hn : is.length ≤ 3518437208832) (v : Value) (w : World) (hR : RowsAt 5 Ins.cells w (fun k => k < w.heap.size) v is) (hL : LaidW w) : Calls Tryd.prog 21 #[v] w (PrtE (printI is) w) := by
  obtain ⟨A, c, rfl, hlc, hcm, hrow⟩ := hR
  have HR := Lib.hid hrow
  have HL := Lib.hid (fun (X : World) (hb : Below w.heap.size w X) => hL.below hb)
  clear hrow hlc hcm hL
  have HN := Lib.hid hn
  clear hn
  go_enter Tryd.func21, Tryd.ntmps21
  go_upto_region 2 with (fail)
  have D0 := Lib.hid (Bd.new w)
  have B0 : Hid (Below w.heap.size w (w.alloc (.cells #[.pointer none, .slice none 0 0] 64))) := Lib.hid ((Below.refl _ _).alloc (Nat.le_refl _) _)
  obtain ⟨W, hW⟩ : ∃ W, (w.alloc (.cells #[.pointer none, .slice none 0 0] 64)) = W := ⟨_, rfl⟩
  rw [hW] at D0 B0 ⊢
  clear hW
  generalize hB : w.heap.size = r at D0 B0 HL HR ⊢
  have HB := Lib.hid hB
  clear hB
  go_wp2_with fail
  go_loopw [13] (fun t wr => ∃ (k : Nat), k ≤ is.length ∧ t = .int .i64 k ∧ Hid ((is.take k).all mayS = true) ∧ Hid (Bd r r (textS (is.take k)) wr) ∧ Hid (Below r w wr)) (fun t _ => is.length - (intOf t).toNat)
  case atStart => exact ⟨0, Nat.zero_le _, rfl, Lib.hid (by simp), D0, B0⟩
  case round =>
    clear D0 B0
    obtain ⟨k, hk, rfl, HAL, D3, B3⟩ := hrel
    obtain ⟨w3, hw3⟩ : ∃ w3, w3 = wr := ⟨_, rfl⟩
    rw [← hw3] at D3 B3 ⊢
    clear hw3
    by_cases hkn : k < is.length
    · obtain ⟨i, hik⟩ : ∃ i, is[k]? = some i := ⟨_, List.getElem?_eq_getElem hkn⟩
      obtain ⟨bb, off, rfl, -, hbl, hcell⟩ := HR.out k i hik
      have cel : ∀ j v, (inA i).toList[j]? = some v → w3.cell? ⟨bb, off + k * 5 + j, none⟩ = some v := fun j v hv => (B3.out.cell (p := ⟨bb, off + k * 5 + j, none⟩) hbl).trans (hcell j v hv)
      have HIK := Lib.hid hik
      have HCM := Lib.hid (fun w => may_any i w)
      have hTK : is.take (k + 1) = is.take k ++ [i] := by rw [List.take_add_one, HIK.out]; rfl
      have HTX : Hid (textS (is.take (k + 1)) = textS (is.take k) ++ (lineS i ++ [10])) := Lib.hid (by rw [hTK]; unfold textS; rw [List.flatMap_append]; simp)
      have HLP : Hid ((textS (is.take k)).length ≤ 39 * k) := Lib.hid (by have := text_len HAL.out; rw [List.length_take] at this; omega)
      have HTK := Lib.hid hTK
      clear hik hcell hbl hTK
      have N0 := Lib.hid ((Has.start (Below.refl w3.heap.size w3) (Nat.le_refl _)).newcel 39 #[.int .i64 0, .int .i64 0, .int .i64 0, .int .i64 0, .int .i64 0])
      have N1 := Lib.hid (N0.out.rowc w3.heap.size (inA i))
      go_upto_region 5 with (first | (refine wpList_partW (by kernel_rfl) 39 _ rfl bb (off + k * 5) rfl (inA i) _ cel Tryd.underlying39 rfl (by kernel_rfl) ?_) | (refine wpList_store_row rfl 39 _ _ rfl w3.heap.size (inA i) rfl rfl 39 #[.int .i64 0, .int .i64 0, .int .i64 0, .int .i64 0, .int .i64 0] (N0.out.getc w3.heap.size) (by kernel_rfl) rfl (by kernel_rfl) ?_))
      obtain ⟨w5, hW⟩ : ∃ w5, (w3.alloc (.cells #[.int .i64 0, .int .i64 0, .int .i64 0, .int .i64 0, .int .i64 0] 39)).setRow w3.heap.size (inA i) = w5 := ⟨_, rfl⟩
      have N5 := N1
      rw [hW] at N5 ⊢
      clear hW N0 N1 cel
      have B5 : Hid (Below r w w5) := Lib.hid (B3.out.trans (N5.out.bel.mono (Nat.le_of_lt D3.out.lt)))
      have D5 := Lib.hid (D3.out.below N5.out.bel)
      have X5 := Lib.hid (N5.out.getc w3.heap.size)
      have HXR : Hid (w3.heap.size ≠ r) := Lib.hid (by have := D3.out.lt; omega)
      clear B3 D3
      generalize w3.heap.size = x at N5 X5 HXR ⊢
      have HC2 : Hid (Calls Tryd.prog 23 #[.agg (inA i)] w5 fun e w' => e = .returned (.int .i64 (if mayS i = true then 0 else 40)) ∧ Below w5.heap.size w5 w') := HCM |>.out w5 |> Lib.hid
      clear N5
      go_wp2_with (first | (refine wpList_rowW (by kernel_rfl) 39 _ rfl x rfl (inA i) _ (X5.out) Tryd.underlying39 rfl (by kernel_rfl) ?_))
      refine (HC2.out).mono ?_
      rintro e w6 ⟨rfl, hb6⟩
      have B6 : Hid (Below r w w6) := Lib.hid (B5.out.trans (hb6.mono (Nat.le_of_lt D5.out.lt)))
      have D6 := Lib.hid (D5.out.below hb6)
      have X6 := Lib.hid (X5.out.keep hb6)
      clear hb6 D5 B5 X5 HC2
      by_cases hm : mayS i = true
      · rw [if_pos hm]
        have HMY := Lib.hid hm
        have HAL2 : Hid ((is.take (k + 1)).all mayS = true) := Lib.hid (by rw [HTK.out, List.all_append, HAL.out]; simp [hm])
        obtain ⟨⟨o1, o2⟩, -⟩ := may_rng hm
        obtain ⟨m, hmo⟩ : ∃ m : Nat, i.op = m := ⟨i.op.toNat, by omega⟩
        have hm23 : m < 23 := by omega
        have HOP := Lib.hid hmo
        have HRL : Hid (r < w6.heap.size) := Lib.hid D6.out.lt
        have HNL : Hid ((nameS m).data.toList.length ≤ 5) := Lib.hid (by have := opN_len ⟨m, hm23⟩; unfold opN at this; exact this)
        have x0 : Hid (∀ X : World, Blk X x 39 (inA i) → X.cell? ⟨x, 0, none⟩ = some (.int .i64 m)) := Lib.hid (fun X h => by rw [h.cell]; show some (Value.int .i64 i.op) = _; rw [hmo])
        obtain ⟨PB, hPB⟩ : ∃ PB, textS (is.take k) = PB := ⟨_, rfl⟩
        rw [hPB] at D6 HTX HLP
        have HLA : Hid (PB.length + (nameS m).size ≤ 140737488355328) := Lib.hid (by have e1 := HLP.out; have e2 := HNL.out; have e3 := HN.out; have e4 : (nameS m).data.toList.length = (nameS m).size := rfl; omega)
        have HLA2 : Hid ((PB ++ (nameS m).data.toList).length + 1000 ≤ 140737488355328) := Lib.hid (by have e1 := HLP.out; have e2 := HNL.out; have e3 := HN.out; rw [List.length_append]; omega)
        have hkb : (k : Int) + 1 ≤ 3518437208833 := by have := HN.out; omega
        clear hm o1 o2 hmo HAL hPB HCM
        go_upto_region 8 with fail
        have hS6 : Blk w6 x 39 (inA i) := X6.out
        have hS0 : (fun X => Blk X x 39 (inA i)) w6.drew := X6.out
        refine wp_region_noPanic ?_
        refine wp_region_held_drew (S := fun X => Blk X x 39 (inA i)) (by kernel_rfl) hS0 ?_
        clear hS0
        intro hS
        refine takeR (i := 1) (v := .pointer (some ⟨x, 0, none⟩)) 23 rfl (by kernel_rfl) (by kernel_rfl) (by kernel_rfl) (by kernel_rfl) (fun _ _ _ h => h) (yields_pure (by kernel_rfl) (fun w => by kernel_rfl)) hS ?_
        refine takeR (i := 2) 24 rfl (by kernel_rfl) (by kernel_rfl) (by kernel_rfl) (by kernel_rfl) (fun _ _ _ h => h) (yields_load_cell (by kernel_rfl) 37 _ rfl x 0 (by kernel_rfl) (.int .i64 m) (fun X h => x0.out X h) _ Tryd.underlying37 rfl) hS ?_
        refine wpAnyH_all (rs := [0, 5]) (by kernel_rfl) (by simp) ?_
        intro j hj
        obtain rfl | rfl : j = 0 ∨ j = 5 := by simpa using hj
        focus
          refine opR_call 22 rfl rfl (by kernel_rfl) _ _ _ rfl _ (by kernel_rfl) ((shapes_any _).mono ?_)
          rintro e X1 ⟨rfl, hblk, hbX⟩
          refine ⟨_, rfl, hS.keep hbX, ?_⟩
          have hS := hS.keep hbX
          refine takeR (i := 3) (v := .pointer (some ⟨w6.drew.heap.size, 0 + m * 2, none⟩)) 25 rfl (by kernel_rfl) (by kernel_rfl) (by kernel_rfl) (by kernel_rfl) (fun _ _ _ h => h) (yields_index_sl (by kernel_rfl) _ _ rfl w6.drew.heap.size 0 23 23 m 2 (by kernel_rfl) (by kernel_rfl) Tryd.underlying67 (by kernel_rfl) hm23) hS ?_
          have cel : ∀ j v, (#[.string (nameS m), .string (formS m)] : Array Value).toList[j]? = some v → X1.cell? ⟨w6.drew.heap.size, 0 + m * 2 + j, none⟩ = some v := fun j v hv => by
            match j, hv with
            | 0, hv =>
              obtain rfl : _ = v := by simpa using hv
              rw [Blk.cell hblk, show 0 + m * 2 + 0 = m * 2 by omega]
              exact shA_name m hm23
            | 1, hv =>
              obtain rfl : _ = v := by simpa using hv
              rw [Blk.cell hblk, show 0 + m * 2 + 1 = m * 2 + 1 by omega]
              exact shA_form m hm23
            | j + 2, hv => simp at hv
          have N0 := Lib.hid ((Has.start (Below.refl X1.heap.size X1) (Nat.le_refl _)).newcel 66 #[.string ⟨#[]⟩, .string ⟨#[]⟩])
          have N1 := Lib.hid (N0.out.rowc X1.heap.size #[.string (nameS m), .string (formS m)])
          refine wpAnyH_all (rs := [4, 5]) (by kernel_rfl) (by simp) ?_
          intro j hj
          obtain rfl | rfl : j = 4 ∨ j = 5 := by simpa using hj
          focus
            refine opR_part 26 rfl (by kernel_rfl) (by kernel_rfl) 66 _ rfl w6.drew.heap.size (0 + m * 2) (by kernel_rfl) #[.string (nameS m), .string (formS m)] _ cel Tryd.underlying66 rfl (by kernel_rfl) ?_
            refine ⟨hS, ?_⟩
            refine wpAnyH_all (rs := [5]) (by kernel_rfl) (by simp) ?_
            intro j hj
            obtain rfl : j = 5 := by simpa using hj
            refine opR_run (v := .pointer (some ⟨X1.heap.size, 0, none⟩)) (w' := X1.alloc (.cells #[.string ⟨#[]⟩, .string ⟨#[]⟩] 66)) 8 rfl (by kernel_rfl) (by kernel_rfl) (by kernel_rfl) ?_
            refine ⟨hS.alloc _, ?_⟩
            refine wpAnyH_all (rs := [6]) (by kernel_rfl) (by simp) ?_
            intro j hj
            obtain rfl : j = 6 := by simpa using hj
            refine opR_store rfl (by kernel_rfl) (by kernel_rfl) 66 _ _ rfl X1.heap.size #[.string (nameS m), .string (formS m)] (by kernel_rfl) (by kernel_rfl) 66 #[.string ⟨#[]⟩, .string ⟨#[]⟩] (N0.out.getc _) (by kernel_rfl) rfl (by kernel_rfl) ?_
            refine ⟨(hS.alloc _).st (Nat.ne_of_lt hS.lt), ?_⟩
            refine wpAnyH_done (by kernel_rfl) ?_ _
            refine NoPanic.normal ?_
            simp only [Act.put, List.setIfInBounds_toArray, List.set_cons_succ, List.set_cons_zero]
            obtain ⟨Wf, hW⟩ : ∃ Wf, (X1.alloc (.cells #[.string ⟨#[]⟩, .string ⟨#[]⟩] 66)).setRow X1.heap.size #[.string (nameS m), .string (formS m)] = Wf := ⟨_, rfl⟩
            rw [hW] at N1 ⊢
            have HF := N1
            clear hW N0 N1
            obtain ⟨hh, hhh⟩ : ∃ hh, X1.heap.size = hh := ⟨_, rfl⟩
            have BF : Hid (Below w6.heap.size w6 Wf) := Lib.hid (((Below.refl _ _).drew.trans hbX).trans (HF.out.bel.mono hbX.size))
            rw [hhh] at HF
            simp only [hhh]
            have HXF : Hid (Blk Wf hh 66 #[.string (nameS m), .string (formS m)]) := Lib.hid (HF.out.getc hh)
            have HHR : Hid (hh ≠ r) := Lib.hid (by have := hbX.size; have e : w6.drew.heap.size = w6.heap.size := rfl; have := HRL.out; omega)
            clear HF hbX hblk cel hS hhh
            generalize w6.drew.heap.size = tb
            generalize m * 2 = ix
          rotate_left 1
          focus
            refine opR_run (v := .pointer (some ⟨X1.heap.size, 0, none⟩)) (w' := X1.alloc (.cells #[.string ⟨#[]⟩, .string ⟨#[]⟩] 66)) 8 rfl (by kernel_rfl) (by kernel_rfl) (by kernel_rfl) ?_
            refine ⟨hS.alloc _, ?_⟩
            have celA : ∀ j v, (#[.string (nameS m), .string (formS m)] : Array Value).toList[j]? = some v → (X1.alloc (.cells #[.string ⟨#[]⟩, .string ⟨#[]⟩] 66)).cell? ⟨w6.drew.heap.size, 0 + m * 2 + j, none⟩ = some v := fun j v hv => by
              match j, hv with
              | 0, hv =>
                obtain rfl : _ = v := by simpa using hv
                rw [Blk.cell (hblk.alloc _), show 0 + m * 2 + 0 = m * 2 by omega]
                exact shA_name m hm23
              | 1, hv =>
                obtain rfl : _ = v := by simpa using hv
                rw [Blk.cell (hblk.alloc _), show 0 + m * 2 + 1 = m * 2 + 1 by omega]
                exact shA_form m hm23
              | j + 2, hv => simp at hv
            refine wpAnyH_all (rs := [4]) (by kernel_rfl) (by simp) ?_
            intro j hj
            obtain rfl : j = 4 := by simpa using hj
            refine opR_part 26 rfl (by kernel_rfl) (by kernel_rfl) 66 _ rfl w6.drew.heap.size (0 + m * 2) (by kernel_rfl) #[.string (nameS m), .string (formS m)] _ celA Tryd.underlying66 rfl (by kernel_rfl) ?_
            refine ⟨hS.alloc _, ?_⟩
            refine wpAnyH_all (rs := [6]) (by kernel_rfl) (by simp) ?_
            intro j hj
            obtain rfl : j = 6 := by simpa using hj
            refine opR_store rfl (by kernel_rfl) (by kernel_rfl) 66 _ _ rfl X1.heap.size #[.string (nameS m), .string (formS m)] (by kernel_rfl) (by kernel_rfl) 66 #[.string ⟨#[]⟩, .string ⟨#[]⟩] (N0.out.getc _) (by kernel_rfl) rfl (by kernel_rfl) ?_
            refine ⟨(hS.alloc _).st (Nat.ne_of_lt hS.lt), ?_⟩
            refine wpAnyH_done (by kernel_rfl) ?_ _
            refine NoPanic.normal ?_
            simp only [Act.put, List.setIfInBounds_toArray, List.set_cons_succ, List.set_cons_zero]
            clear celA
            obtain ⟨Wf, hW⟩ : ∃ Wf, (X1.alloc (.cells #[.string ⟨#[]⟩, .string ⟨#[]⟩] 66)).setRow X1.heap.size #[.string (nameS m), .string (formS m)] = Wf := ⟨_, rfl⟩
            rw [hW] at N1 ⊢
            have HF := N1
            clear hW N0 N1
            obtain ⟨hh, hhh⟩ : ∃ hh, X1.heap.size = hh := ⟨_, rfl⟩
            have BF : Hid (Below w6.heap.size w6 Wf) := Lib.hid (((Below.refl _ _).drew.trans hbX).trans (HF.out.bel.mono hbX.size))
            rw [hhh] at HF
            simp only [hhh]
            have HXF : Hid (Blk Wf hh 66 #[.string (nameS m), .string (formS m)]) := Lib.hid (HF.out.getc hh)
            have HHR : Hid (hh ≠ r) := Lib.hid (by have := hbX.size; have e : w6.drew.heap.size = w6.heap.size := rfl; have := HRL.out; omega)
            clear HF hbX hblk cel hS hhh
            generalize w6.drew.heap.size = tb
            generalize m * 2 = ix
        rotate_left 2
        focus
          refine opR_run (v := .pointer (some ⟨w6.drew.heap.size, 0, none⟩)) (w' := w6.drew.alloc (.cells #[.string ⟨#[]⟩, .string ⟨#[]⟩] 66)) 8 rfl (by kernel_rfl) (by kernel_rfl) (by kernel_rfl) ?_
          refine ⟨hS.alloc _, ?_⟩
          have hS := hS.alloc (.cells #[.string ⟨#[]⟩, .string ⟨#[]⟩] 66)
          have N0 := Lib.hid ((Has.start (Below.refl w6.drew.heap.size w6.drew) (Nat.le_refl _)).newcel 66 #[.string ⟨#[]⟩, .string ⟨#[]⟩])
          refine wpAnyH_all (rs := [0]) (by kernel_rfl) (by simp) ?_
          intro j hj
          obtain rfl : j = 0 := by simpa using hj
          refine opR_call 22 rfl rfl (by kernel_rfl) _ _ _ rfl _ (by kernel_rfl) ((shapes_any _).mono ?_)
          rintro e X1 ⟨rfl, hblk, hbX⟩
          refine ⟨_, rfl, hS.keep hbX, ?_⟩
          have hS := hS.keep hbX
          have N2 := Lib.hid (N0.out.stay hbX)
          obtain ⟨tb, htb⟩ : ∃ tb, (w6.drew.alloc (.cells #[.string ⟨#[]⟩, .string ⟨#[]⟩] 66)).heap.size = tb := ⟨_, rfl⟩
          rw [htb] at hblk
          simp only [htb]
          refine takeR (i := 3) (v := .pointer (some ⟨tb, 0 + m * 2, none⟩)) 25 rfl (by kernel_rfl) (by kernel_rfl) (by kernel_rfl) (by kernel_rfl) (fun _ _ _ h => h) (yields_index_sl (by kernel_rfl) _ _ rfl tb 0 23 23 m 2 (by kernel_rfl) (by kernel_rfl) Tryd.underlying67 (by kernel_rfl) hm23) hS ?_
          have cel : ∀ j v, (#[.string (nameS m), .string (formS m)] : Array Value).toList[j]? = some v → X1.cell? ⟨tb, 0 + m * 2 + j, none⟩ = some v := fun j v hv => by
            match j, hv with
            | 0, hv =>
              obtain rfl : _ = v := by simpa using hv
              rw [Blk.cell hblk, show 0 + m * 2 + 0 = m * 2 by omega]
              exact shA_name m hm23
            | 1, hv =>
              obtain rfl : _ = v := by simpa using hv
              rw [Blk.cell hblk, show 0 + m * 2 + 1 = m * 2 + 1 by omega]
              exact shA_form m hm23
            | j + 2, hv => simp at hv
          have N1 := Lib.hid (N2.out.rowc w6.drew.heap.size #[.string (nameS m), .string (formS m)])
          refine wpAnyH_all (rs := [4]) (by kernel_rfl) (by simp) ?_
          intro j hj
          obtain rfl : j = 4 := by simpa using hj
          refine opR_part 26 rfl (by kernel_rfl) (by kernel_rfl) 66 _ rfl tb (0 + m * 2) (by kernel_rfl) #[.string (nameS m), .string (formS m)] _ cel Tryd.underlying66 rfl (by kernel_rfl) ?_
          refine ⟨hS, ?_⟩
          refine wpAnyH_all (rs := [6]) (by kernel_rfl) (by simp) ?_
          intro j hj
          obtain rfl : j = 6 := by simpa using hj
          refine opR_store rfl (by kernel_rfl) (by kernel_rfl) 66 _ _ rfl w6.drew.heap.size #[.string (nameS m), .string (formS m)] (by kernel_rfl) (by kernel_rfl) 66 #[.string ⟨#[]⟩, .string ⟨#[]⟩] (N2.out.getc _) (by kernel_rfl) rfl (by kernel_rfl) ?_
          refine ⟨hS.st (by have := hS6.lt; have e : w6.drew.heap.size = w6.heap.size := rfl; omega), ?_⟩
          refine wpAnyH_done (by kernel_rfl) ?_ _
          refine NoPanic.normal ?_
          simp only [Act.put, List.setIfInBounds_toArray, List.set_cons_succ, List.set_cons_zero]
          obtain ⟨Wf, hW⟩ : ∃ Wf, X1.setRow w6.drew.heap.size #[.string (nameS m), .string (formS m)] = Wf := ⟨_, rfl⟩
          rw [hW] at N1 ⊢
          have HF := N1
          clear hW N0 N1 N2
          obtain ⟨hh, hhh⟩ : ∃ hh, w6.drew.heap.size = hh := ⟨_, rfl⟩
          have BF : Hid (Below w6.heap.size w6 Wf) := Lib.hid ((Below.refl _ _).drew.trans HF.out.bel)
          have HHR : Hid (hh ≠ r) := Lib.hid (by rw [← hhh]; have e : w6.drew.heap.size = w6.heap.size := rfl; have := HRL.out; omega)
          rw [hhh] at HF
          simp only [hhh]
          have HXF : Hid (Blk Wf hh 66 #[.string (nameS m), .string (formS m)]) := Lib.hid (HF.out.getc hh)
          clear HF hbX hblk cel hS hhh htb
          generalize m * 2 = ix
        all_goals
          clear hS6
          have B7 : Hid (Below r w Wf) := Lib.hid (B6.out.trans (BF.out.mono (Nat.le_of_lt D6.out.lt)))
          have D7 : Hid (Bd r r PB Wf) := Lib.hid (D6.out.below BF.out)
          have X7 : Hid (Blk Wf x 39 (inA i)) := Lib.hid (X6.out.keep BF.out)
          clear BF
          have C7 := Lib.hid (writeString_u r r PB (nameS m) Wf D7.out HLA.out (Nat.le_of_lt D7.out.lt))
          have h0 : Wf.cell? ⟨hh, 0, none⟩ = some (.string (nameS m)) := by rw [HXF.out.cell]; rfl
          go_wp2_with fail
          refine (C7.out).mono ?_
          rintro e w8 ⟨rfl, D8, b8, o8⟩
          have B8 : Hid (Below r w w8) := Lib.hid (B7.out.trans b8)
          have X8 : Hid (Blk w8 x 39 (inA i)) := Lib.hid (o8.blk X7.out HXR.out (by decide))
          have Y8 : Hid (Blk w8 hh 66 #[.string (nameS m), .string (formS m)]) := Lib.hid (o8.blk HXF.out HHR.out (by decide))
          have D8 := Lib.hid D8
          clear b8 o8 C7 h0 HXF X7 D7 B7
          have h1 : w8.cell? ⟨hh, 1, none⟩ = some (.string (formS m)) := by rw [Y8.out.cell]; rfl
          have kc := fun (w : World) (s : ByteArray) => Lib.run_convert_string_bytes (P := Tryd.prog) w 9 31 5 s Tryd.underlying9 Tryd.underlying31 Tryd.underlying5
          go_wp2_with fail
          have B9 : Hid (Below r w (bytesWorld w8 5 (formS m))) := Lib.hid (B8.out.trans ((bytesWorld_below w8 5 (formS m)).mono (Nat.le_of_lt D8.out.lt)))
          have D9 := Lib.hid (D8.out.below (bytesWorld_below w8 5 (formS m)))
          have X9 := Lib.hid (X8.out.keep (bytesWorld_below w8 5 (formS m)))
          have G9 := Lib.hid (bytesWorld_at_new w8 5 (formS m))
          have HGR : Hid (w8.heap.size ≠ r) := Lib.hid (by have := D8.out.lt; omega)
          have HCS : Hid (∀ (j : Nat) (f : UInt8), (opF m)[j]? = some f → (bytesCells w8 5 (formS m))[j]? = some (.int .u8 f.toNat)) := Lib.hid (fun j f hf => by
            have hj : j < (formS m).size := (List.getElem?_eq_some_iff.1 hf).1
            have h2 := bytesWorld_cell w8 5 (formS m) j hj
            rw [Lib.cell_of_heap (bytesWorld_at_new w8 5 (formS m))] at h2
            rw [h2]
            unfold opF at hf
            rw [List.getD_eq_getElem?_getD, hf]
            rfl)
          obtain ⟨W9, hW9⟩ : ∃ W9, bytesWorld w8 5 (formS m) = W9 := ⟨_, rfl⟩
          rw [hW9] at B9 D9 X9 G9 ⊢
          clear hW9 kc h1 Y8 D8 B8 X8
          generalize grownCap w8 (formS m).size 0 5 = gc
          generalize hCS : bytesCells w8 5 (formS m) = CS at G9 HCS
          clear hCS
          generalize CS.size = z at G9
          generalize w8.heap.size = g at G9 HGR ⊢
          go_loopw [34] (fun t wr => ∃ k2 : Nat, k2 ≤ (formS m).size ∧ t = .int .i64 k2 ∧ Hid (Bd r r (PB ++ (nameS m).data.toList ++ ((opF m).take k2).flatMap (wdS i)) wr) ∧ Hid (Below r w wr) ∧ Hid (Blk wr x 39 (inA i)) ∧ Hid (wr.heap[g]? = some (.cells CS 5 (z, z + 1)))) (fun t _ => (formS m).size - (RowKit.intOf t).toNat)
          case atStart => exact ⟨0, Nat.zero_le _, rfl, Lib.hid (by have := D9.out; simpa using this), B9, X9, G9⟩
          case round =>
            clear D9 B9 X9 G9
            obtain ⟨k2, hk2, rfl, DA, BA, XA, GA⟩ := hrel
            obtain ⟨wa, hwa⟩ : ∃ wa, wa = wr := ⟨_, rfl⟩
            rw [← hwa] at DA BA XA GA ⊢
            clear hwa
            by_cases hkn : k2 < (formS m).size
            · obtain ⟨f, hf⟩ : ∃ f, (opF m)[k2]? = some f := ⟨_, List.getElem?_eq_getElem (by simpa [opF] using hkn)⟩
              have q0 : wa.cell? ⟨g, k2, none⟩ = some (.int .u8 f.toNat) := by rw [Lib.cell_of_heap GA.out]; exact HCS.out k2 f hf
              have hfl : isL f = true := List.all_eq_true.1 (opF_isL ⟨m, hm23⟩) f (List.mem_of_getElem? hf)
              have HFK := Lib.hid (kOf_ltr hfl)
              have hsz3 : (formS m).size ≤ 3 := by have := opF_len ⟨m, hm23⟩; simpa [opF] using this
              have HTK : Hid (((opF m).take (k2 + 1)).flatMap (wdS i) = ((opF m).take k2).flatMap (wdS i) ++ wdS i f) := Lib.hid (by rw [List.take_add_one, hf]; simp)
              have HWL : Hid ((((opF m).take k2).flatMap (wdS i)).length ≤ 48) := Lib.hid (by
                have e1 := words_len HMY.out ((opF m).take k2)
                have e2 := opF_len ⟨m, hm23⟩
                rw [List.length_take] at e1
                simp only at e2
                omega)
              obtain ⟨PC, hPC⟩ : ∃ PC, ((opF m).take k2).flatMap (wdS i) = PC := ⟨_, rfl⟩
              rw [hPC] at DA HTK HWL
              clear hPC hf hfl
              have CA : Hid (Calls Tryd.prog 35 #[.pointer (some ⟨r, 0, none⟩), .int .u8 32] wa fun e w' => e = .returned .nilIface ∧ BdE r r (PB ++ (nameS m).data.toList ++ PC ++ [32]) wa w') := Lib.hid (writeByte_u r r (PB ++ (nameS m).data.toList ++ PC) 32 wa DA.out (by rw [List.length_append]; have := HLA2.out; have := HWL.out; omega) (Nat.le_of_lt DA.out.lt))
              have hkI : (k2 : Int) < ((formS m).size : Int) := by omega
              go_wp2_with fail
              refine (CA.out).mono ?_
              rintro e wb ⟨rfl, Db, bb, ob⟩
              have BB : Hid (Below r w wb) := Lib.hid (BA.out.trans bb)
              have XB : Hid (Blk wb x 39 (inA i)) := Lib.hid (ob.blk XA.out HXR.out (by decide))
              have GB : Hid (wb.heap[g]? = some (.cells CS 5 (z, z + 1))) := Lib.hid (ob g _ GA.out HGR.out (fun c => frz_kind))
              have DB := Lib.hid Db
              clear Db bb ob CA q0 DA BA XA GA
              by_cases hf110 : f = 110
              · have hfI : ((f.toNat : Int) != 110) = false := by rw [hf110]; rfl
                have HWD : Hid (wdS i f = [32] ++ itoa (prt i (kOf f))) := Lib.hid (by unfold wdS; rw [if_pos hf110]; rfl)
                clear hf110
                have o0 : wb.cell? ⟨x, 1 + kOf f, none⟩ = some (.int .i64 (prt i (kOf f))) := by rw [XB.out.cell]; exact inA_prt i _ HFK.out.1
                have HPR := Lib.hid (prt_rng HMY.out (kOf f))
                have CF : Hid (∀ w, Calls Tryd.prog 37 #[.pointer (some ⟨x, 0, none⟩), .int .u8 f.toNat] w fun e w' => e = .returned (.pointer (some ⟨x, 1 + kOf f, none⟩)) ∧ w = w') := Lib.hid (by have := fun w => field_any x (kOf f) HFK.out.1 w; rw [HFK.out.2] at this; exact this)
                have CI := Lib.hid (itoa_any (prt i (kOf f)) (by have := HPR.out; omega) (by have := HPR.out; omega) wb (HL.out wb BB.out))
                go_wp2_with fail
                refine (CF.out _).mono ?_
                rintro e wx ⟨rfl, rfl⟩
                go_wp2_with fail
                refine (CI.out).mono ?_
                rintro e wd ⟨rfl, hbd⟩
                have BD : Hid (Below r w wd) := Lib.hid (BB.out.trans (hbd.mono (Nat.le_of_lt DB.out.lt)))
                have DD : Hid (Bd r r (PB ++ (nameS m).data.toList ++ PC ++ [32]) wd) := Lib.hid (by have := DB.out.below hbd; simpa only [List.append_assoc] using this)
                have XD := Lib.hid (XB.out.keep hbd)
                have GD : Hid (wd.heap[g]? = some (.cells CS 5 (z, z + 1))) := Lib.hid ((hbd.block g (Array.getElem?_eq_some_iff.1 GB.out).1).trans GB.out)
                clear hbd o0 CI CF BB XB GB DB
                have CS_ : Hid (Calls Tryd.prog 34 #[.pointer (some ⟨r, 0, none⟩), .string ⟨(itoa (prt i (kOf f))).toArray⟩] wd fun e w' => e = .returned (.tuple #[.int .i64 (⟨(itoa (prt i (kOf f))).toArray⟩ : ByteArray).size, .nilIface]) ∧ BdE r r ((PB ++ (nameS m).data.toList ++ PC ++ [32]) ++ itoa (prt i (kOf f))) wd w') := Lib.hid (writeString_u r r (PB ++ (nameS m).data.toList ++ PC ++ [32]) ⟨(itoa (prt i (kOf f))).toArray⟩ wd DD.out (by
                  have e1 := itoa_len HPR.out.1 HPR.out.2
                  have e2 : (⟨(itoa (prt i (kOf f))).toArray⟩ : ByteArray).size = (itoa (prt i (kOf f))).length := by simp [ByteArray.size]
                  have e3 := HLA2.out
                  have e4 := HWL.out
                  rw [e2]
                  simp only [List.length_append, List.length_cons, List.length_nil] at *
                  omega) (Nat.le_of_lt DD.out.lt))
                go_wp2_with fail
                refine (CS_.out).mono ?_
                rintro e wg ⟨rfl, Dg, bg, og⟩
                have BG : Hid (Below r w wg) := Lib.hid (BD.out.trans bg)
                have XG : Hid (Blk wg x 39 (inA i)) := Lib.hid (og.blk XD.out HXR.out (by decide))
                have GG : Hid (wg.heap[g]? = some (.cells CS 5 (z, z + 1))) := Lib.hid (og g _ GD.out HGR.out (fun c => frz_kind))
                have DG : Hid (Bd r r (PB ++ (nameS m).data.toList ++ ((opF m).take (k2 + 1)).flatMap (wdS i)) wg) := Lib.hid (by rw [HTK.out, HWD.out]; simpa only [List.append_assoc] using Dg)
                clear Dg bg og CS_ BD DD XD GD
                go_wp2_with fail
                first
                  | (go_roundw
                     case rel => exact ⟨k2 + 1, by omega, by go_num, DG, BG, XG, GG⟩
                     case measure => simp [intOf]; omega)
                  | (refine ⟨?_, ?_⟩
                     · (repeat apply Exists.intro)
                       refine ⟨?_, rfl⟩
                       exact ⟨k2 + 1, by omega, by go_num, DG, BG, XG, GG⟩
                     · simp [intOf]; omega)
              · have hfJ : ¬ ((f.toNat : Int) = 110) := fun e => hf110 (UInt8.toNat_inj.1 (by rw [show (110 : UInt8).toNat = 110 from rfl]; omega))
                have hfI : ((f.toNat : Int) != 110) = true := bne_iff_ne.2 hfJ
                have HWD : Hid (wdS i f = [32] ++ [114] ++ itoa (prt i (kOf f))) := Lib.hid (by unfold wdS; rw [if_neg hf110])
                clear hf110
                have CB : Hid (Calls Tryd.prog 35 #[.pointer (some ⟨r, 0, none⟩), .int .u8 114] wb fun e w' => e = .returned .nilIface ∧ BdE r r (PB ++ (nameS m).data.toList ++ PC ++ [32] ++ [114]) wb w') := Lib.hid (writeByte_u r r (PB ++ (nameS m).data.toList ++ PC ++ [32]) 114 wb DB.out (by have h1 := HLA2.out; have h2 := HWL.out; simp only [List.length_append, List.length_cons, List.length_nil] at h1 h2 ⊢; omega) (Nat.le_of_lt DB.out.lt))
                go_wp2_with fail
                refine (CB.out).mono ?_
                rintro e wc ⟨rfl, Dc, bc, oc⟩
                have BC : Hid (Below r w wc) := Lib.hid (BB.out.trans bc)
                have XC : Hid (Blk wc x 39 (inA i)) := Lib.hid (oc.blk XB.out HXR.out (by decide))
                have GC : Hid (wc.heap[g]? = some (.cells CS 5 (z, z + 1))) := Lib.hid (oc g _ GB.out HGR.out (fun c => frz_kind))
                have DC := Lib.hid Dc
                clear Dc bc oc CB DB BB XB GB
                have o0 : wc.cell? ⟨x, 1 + kOf f, none⟩ = some (.int .i64 (prt i (kOf f))) := by rw [XC.out.cell]; exact inA_prt i _ HFK.out.1
                have HPR := Lib.hid (prt_rng HMY.out (kOf f))
                have CF : Hid (∀ w, Calls Tryd.prog 37 #[.pointer (some ⟨x, 0, none⟩), .int .u8 f.toNat] w fun e w' => e = .returned (.pointer (some ⟨x, 1 + kOf f, none⟩)) ∧ w = w') := Lib.hid (by have := fun w => field_any x (kOf f) HFK.out.1 w; rw [HFK.out.2] at this; exact this)
                have CI := Lib.hid (itoa_any (prt i (kOf f)) (by have := HPR.out; omega) (by have := HPR.out; omega) wc (HL.out wc BC.out))
                go_wp2_with fail
                refine (CF.out _).mono ?_
                rintro e wx ⟨rfl, rfl⟩
                go_wp2_with fail
                refine (CI.out).mono ?_
                rintro e wd ⟨rfl, hbd⟩
                have BD : Hid (Below r w wd) := Lib.hid (BC.out.trans (hbd.mono (Nat.le_of_lt DC.out.lt)))
                have DD : Hid (Bd r r (PB ++ (nameS m).data.toList ++ PC ++ [32] ++ [114]) wd) := Lib.hid (by have := DC.out.below hbd; simpa only [List.append_assoc] using this)
                have XD := Lib.hid (XC.out.keep hbd)
                have GD : Hid (wd.heap[g]? = some (.cells CS 5 (z, z + 1))) := Lib.hid ((hbd.block g (Array.getElem?_eq_some_iff.1 GC.out).1).trans GC.out)
                clear hbd o0 CI CF BC XC GC DC
                have CS_ : Hid (Calls Tryd.prog 34 #[.pointer (some ⟨r, 0, none⟩), .string ⟨(itoa (prt i (kOf f))).toArray⟩] wd fun e w' => e = .returned (.tuple #[.int .i64 (⟨(itoa (prt i (kOf f))).toArray⟩ : ByteArray).size, .nilIface]) ∧ BdE r r ((PB ++ (nameS m).data.toList ++ PC ++ [32] ++ [114]) ++ itoa (prt i (kOf f))) wd w') := Lib.hid (writeString_u r r (PB ++ (nameS m).data.toList ++ PC ++ [32] ++ [114]) ⟨(itoa (prt i (kOf f))).toArray⟩ wd DD.out (by
                  have e1 := itoa_len HPR.out.1 HPR.out.2
                  have e2 : (⟨(itoa (prt i (kOf f))).toArray⟩ : ByteArray).size = (itoa (prt i (kOf f))).length := by simp [ByteArray.size]
                  have e3 := HLA2.out
                  have e4 := HWL.out
                  rw [e2]
                  simp only [List.length_append, List.length_cons, List.length_nil] at *
                  omega) (Nat.le_of_lt DD.out.lt))
                go_wp2_with fail
                refine (CS_.out).mono ?_
                rintro e wg ⟨rfl, Dg, bg, og⟩
                have BG : Hid (Below r w wg) := Lib.hid (BD.out.trans bg)
                have XG : Hid (Blk wg x 39 (inA i)) := Lib.hid (og.blk XD.out HXR.out (by decide))
                have GG : Hid (wg.heap[g]? = some (.cells CS 5 (z, z + 1))) := Lib.hid (og g _ GD.out HGR.out (fun c => frz_kind))
                have DG : Hid (Bd r r (PB ++ (nameS m).data.toList ++ ((opF m).take (k2 + 1)).flatMap (wdS i)) wg) := Lib.hid (by rw [HTK.out, HWD.out]; simpa only [List.append_assoc] using Dg)
                clear Dg bg og CS_ BD DD XD GD
                go_wp2_with fail
                first
                  | (go_roundw
                     case rel => exact ⟨k2 + 1, by omega, by go_num, DG, BG, XG, GG⟩
                     case measure => simp [intOf]; omega)
                  | (refine ⟨?_, ?_⟩
                     · (repeat apply Exists.intro)
                       refine ⟨?_, rfl⟩
                       exact ⟨k2 + 1, by omega, by go_num, DG, BG, XG, GG⟩
                     · simp [intOf]; omega)
            · have hke : k2 = (formS m).size := by omega
              have DZ : Hid (Bd r r (PB ++ lineS i) wa) := Lib.hid (by
                have e1 := DA.out
                rw [hke, show (formS m).size = (opF m).length from by simp [opF], List.take_length, List.append_assoc] at e1
                unfold lineS
                rw [HOP.out]
                exact e1)
              have CE : Hid (Calls Tryd.prog 35 #[.pointer (some ⟨r, 0, none⟩), .int .u8 10] wa fun e w' => e = .returned .nilIface ∧ BdE r r (PB ++ lineS i ++ [10]) wa w') := Lib.hid (writeByte_u r r (PB ++ lineS i) 10 wa DZ.out (by
                have e1 := line_len HMY.out
                have e2 := HLP.out
                have e3 := HN.out
                simp only [List.length_append, List.length_cons, List.length_nil] at *
                omega) (Nat.le_of_lt DZ.out.lt))
              clear hke DA XA GA DZ
              go_wp2_with fail
              refine (CE.out).mono ?_
              rintro e wf ⟨rfl, Df, bf, of⟩
              have BZ : Hid (Below r w wf) := Lib.hid (BA.out.trans bf)
              have DZ : Hid (Bd r r (textS (is.take (k + 1))) wf) := Lib.hid (by
                have e1 : textS (is.take (k + 1)) = PB ++ lineS i ++ [10] := by rw [HTX.out, List.append_assoc]
                rw [e1]
                exact Df)
              clear Df bf of CE BA
              go_wp2_with fail
              first
                | (go_roundw
                   case rel => exact ⟨k + 1, by omega, by go_num, HAL2, DZ, BZ⟩
                   case measure => simp [intOf]; omega)
                | (refine ⟨?_, ?_⟩
                   · (repeat apply Exists.intro)
                     refine ⟨?_, rfl⟩
                     exact ⟨k + 1, by omega, by go_num, HAL2, DZ, BZ⟩
                   · simp [intOf]; omega)
      · rw [if_neg hm]
        have HE : Hid (printI is = none) := Lib.hid (by
          unfold printI
          rw [if_neg]
          intro h
          exact hm (List.all_eq_true.1 h i (List.mem_of_getElem? HIK.out)))
        clear hm
        go_wp2_with fail
        go_ret2
        exact ⟨by rw [HE.out]; rfl, by rw [HB.out]; exact B6.out⟩
    · have hke : k = is.length := by omega
      have HE : Hid (printI is = some (textS is)) := Lib.hid (by
        have e1 := HAL.out
        rw [hke, List.take_length] at e1
        unfold printI
        rw [if_pos e1])
      have HO2 := D3.out
      rw [hke, List.take_length] at HO2
      have C3 := Lib.hid (string_u r r (textS is) w3 HO2 (Nat.le_of_lt HO2.lt))
      clear HO2 D3 hke
      go_wp2_with fail
      refine (C3.out).mono ?_
      rintro e w4 ⟨rfl, hb4⟩
      have B4 : Hid (Below r w w4) := Lib.hid (B3.out.trans hb4)
      clear hb4 C3
      go_wp2_with fail
      go_ret2
      exact ⟨by rw [HE.out]; rfl, by rw [HB.out]; exact B4.out⟩
end Go.Proofs.YtmbacegbcccdjaaDoor
