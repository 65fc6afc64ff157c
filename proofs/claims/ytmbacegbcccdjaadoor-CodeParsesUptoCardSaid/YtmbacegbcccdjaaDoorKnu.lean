/-
  Layer 4: the document's Cut and 'with'; what its Typed answers, plain.
  Conditions: none. (My own text.)
-/
import Derived.Test.YtmbacegbcccdjaaDoorKpa
import Derived.Test.YtmbacegbcccdjaaDoorKfr
import Derived.Deep.AppendLies
namespace Go.Proofs.YtmbacegbcccdjaaDoor
open Go.RowKit Spm
set_option linter.unusedVariables false
set_option linter.unusedSimpArgs false

open Go.Lib hiding intOf
attribute [local irreducible] wpList
set_option maxRecDepth 100000 in
theorem s_info : (Tryd.prog.info? 9).map (fun i => (i.zero, i.size, i.bytes)) = some (some (.string ⟨#[]⟩), 1, 16) := by kernel_rfl
theorem ext_list (s : ByteArray) (i j : Nat) : (s.extract i j).data.toList = (s.data.toList.drop i).take (j - i) := by
  rw [ByteArray.data_extract, Array.toList_extract]
  first | done | rfl
/-- Pieces in a row of their own. -/
def CutE (c : UInt8) (s : ByteArray) (w : World) (e : Ending) (w' : World) : Prop := ∃ (q cap : Nat) (cur : Array Value) (PL : List ByteArray), e = .returned (.slice (some ⟨q, 0, none⟩) PL.length cap) ∧ Blk w' q 9 cur ∧ w.heap.size ≤ q ∧ (∀ (j : Nat) (p : ByteArray), PL[j]? = some p → cur[j]? = some (.string p)) ∧ PL.map (·.data.toList) = cutS c s.data.toList ∧ PL.length ≤ cap ∧ cap ≤ maxLen ∧ Below w.heap.size w w'
theorem CutE.of {c : UInt8} {s : ByteArray} {w w' : World} {v : Value} {PL : List ByteArray} (h : w'.ownsRow w.heap.size 9 1 v PL.length (PL.map Value.string)) (hm : PL.map (·.data.toList) = cutS c s.data.toList) (hb : Below w.heap.size w w') : CutE c s w (.returned v) w' := by
  have hp : 0 < PL.length := by
    have := congrArg List.length hm
    rw [List.length_map, cutS_len] at this
    omega
  rcases h.2 with ⟨_, hn⟩ | ⟨g, cap, cur, rfl, hbg, hg, hnc, hcm, hcs, htk⟩
  · omega
  · refine ⟨g, cap, cur, PL, rfl, hg, hbg, fun j p hj => ?_, hm, hnc, hcm, hb⟩
    have hj2 := (List.getElem?_eq_some_iff.1 hj).1
    have : (cur.toList.take (PL.length * 1))[j]? = some (.string p) := by rw [htk, List.getElem?_map, hj]; rfl
    rw [List.getElem?_take_of_lt (by omega)] at this
    simpa using this
theorem cut_hit {c : UInt8} {S : List UInt8} {fr i : Nat} (hfi : fr ≤ i) (hi : S[i]? = some c) (hn : ∀ j, fr ≤ j → j < i → S[j]? ≠ some c) : cutS c (S.drop fr) = (S.drop fr).take (i - fr) :: cutS c (S.drop (i + 1)) := by
  have hil := (List.getElem?_eq_some_iff.1 hi).1
  have e : S.drop fr = (S.drop fr).take (i - fr) ++ c :: S.drop (i + 1) := by
    conv => lhs; rw [← List.take_append_drop (i - fr) (S.drop fr)]
    rw [List.drop_drop, show fr + (i - fr) = i by omega, drop_get hi]
  conv => lhs; rw [e]
  refine cutS_app c _ _ (fun hm => ?_)
  obtain ⟨j, hj⟩ := List.mem_iff_getElem?.1 hm
  have hj2 := (List.getElem?_eq_some_iff.1 hj).1
  rw [List.length_take] at hj2
  rw [List.getElem?_take_of_lt (by omega), List.getElem?_drop] at hj
  exact hn (fr + j) (by omega) (by omega) hj
theorem cut_end {c : UInt8} {S : List UInt8} {fr : Nat} (hn : ∀ j, fr ≤ j → j < S.length → S[j]? ≠ some c) : cutS c (S.drop fr) = [S.drop fr] := by
  refine cutS_one c _ (fun hm => ?_)
  obtain ⟨j, hj⟩ := List.mem_iff_getElem?.1 hm
  have hj2 := (List.getElem?_eq_some_iff.1 hj).1
  rw [List.length_drop] at hj2
  rw [List.getElem?_drop] at hj
  exact hn (fr + j) (by omega) (by omega) hj
set_option maxRecDepth 100000 in
set_option maxHeartbeats 4000000 in
theorem rcut_any (s : ByteArray) (hs : s.size ≤ 134217728) (c : UInt8) (w : World) : Calls Tryd.prog 29 #[.string s, .int .u8 c.toNat] w (CutE c s w) := by
  obtain ⟨i0, hi, hz0, hz1, hz2⟩ := info_parts s_info
  have HI := Lib.hid (And.intro hi (And.intro hz0 (And.intro hz1 hz2)))
  clear hi hz0 hz1 hz2
  have hSl : s.data.toList.length = s.size := rfl
  have HSL := Lib.hid hSl
  clear hSl
  go_enter Tryd.func29, Tryd.ntmps29
  go_wp2_with fail
  go_loopw [5, 6, 7] (fun v f t wr => ∃ (i fr : Nat) (PL : List ByteArray), fr ≤ i ∧ i ≤ s.size ∧ f = .int .i64 fr ∧ t = .int .i64 i ∧ Hid (PL.length ≤ fr) ∧ Hid (cutS c s.data.toList = PL.map (·.data.toList) ++ cutS c (s.data.toList.drop fr)) ∧ Hid (∀ j, fr ≤ j → j < i → s.data.toList[j]? ≠ some c) ∧ Hid (wr.ownsRow w.heap.size 9 1 v PL.length (PL.map Value.string)) ∧ Hid (Below w.heap.size w wr)) (fun _ _ t _ => s.size - (RowKit.intOf t).toNat)
  case atStart => exact ⟨0, 0, [], Nat.le_refl _, Nat.zero_le _, rfl, rfl, Lib.hid (Nat.le_refl _), Lib.hid rfl, Lib.hid (fun j h1 h2 => by omega), Lib.hid (World.ownsRow_nil _ _ _ _), Lib.hid (Below.refl _ _)⟩
  case round =>
    obtain ⟨i, fr, PL, hfi, his, rfl, rfl, HLN, HCU, HNO, HOW, HB⟩ := hrel
    obtain ⟨w3, hw3⟩ : ∃ w3, w3 = wr := ⟨_, rfl⟩
    rw [← hw3] at HOW HB ⊢
    clear hw3
    by_cases hin : i < s.size
    · have hsm : s.data.toList[i]? = some (s[i]'hin) := by
        rw [Array.getElem?_toList]
        exact Array.getElem?_eq_getElem _
      have hiI : (i : Int) < (s.size : Int) := by omega
      have hfI : (fr : Int) ≤ (i : Int) := by omega
      by_cases hx : s[i]'hin = c
      · have hxb : (((s[i]'hin).toNat : Int) == (c.toNat : Int)) = true := by rw [hx]; simp
        have HCU2 : Hid (cutS c s.data.toList = (PL ++ [s.extract fr i]).map (·.data.toList) ++ cutS c (s.data.toList.drop (i + 1))) := Lib.hid (by
          rw [HCU.out, cut_hit hfi (by rw [hsm, hx]) HNO.out, List.map_append, List.append_assoc]
          simp only [List.map_cons, List.map_nil, ext_list, List.cons_append, List.nil_append])
        have HNO2 : Hid (∀ j, i + 1 ≤ j → j < i + 1 → s.data.toList[j]? ≠ some c) := Lib.hid (fun j h1 h2 => by omega)
        clear hsm hx
        go_wp2_with (at_builtin; refine wpList_append_own _ rfl _ _ 29 rfl w.heap.size 9 i0 (.string ⟨#[]⟩) 1 16 Tryd.underlying29 HI.out.1 HI.out.2.1 HI.out.2.2.1 HI.out.2.2.2 rfl (by decide) _ PL.length _ rfl (HOW.out.alloc _) ⟨w3.heap.size, 0, none⟩ 1 1 [.string (s.extract fr i)] rfl ?c1 ?c2 ?c3 ?c4 ?c5 ?c6 ?_)
        case c1 => rfl
        case c2 => exact World.news_of_block (heap_alloc_new _ _)
        case c3 => (intro u hu; simp only [List.mem_cons, List.not_mem_nil, or_false] at hu; rcases hu with rfl; rfl)
        case c4 => unfold maxLen; have := HLN.out; omega
        case c5 => have := HLN.out; omega
        case c6 => have := HB.out.size; simp; omega
        intro v' w6 hown1 hgrow _
        have hlt1 := HOW.out.lt
        have H5 : Hid (w6.ownsRow w.heap.size 9 1 v' (PL ++ [s.extract fr i]).length ((PL ++ [s.extract fr i]).map Value.string)) := Lib.hid (by rw [List.map_append, List.length_append]; exact hown1)
        have H6 : Hid (Below w.heap.size w w6) := Lib.hid ((HB.out.alloc HB.out.size _).grown hgrow (by have := HB.out.size; simp; omega) (fun j hj => (hlt1 j hj).1))
        have H7 : Hid ((PL ++ [s.extract fr i]).length ≤ i + 1) := Lib.hid (by have := HLN.out; simp; omega)
        clear hown1 hgrow hlt1 HOW HB HLN HCU HNO
        generalize PL ++ [s.extract fr i] = PL2 at H5 H7 HCU2
        go_wp2_with fail
        first
          | (go_roundw
             case rel => exact ⟨i + 1, i + 1, PL2, Nat.le_refl _, by omega, by go_num, by go_num, H7, HCU2, HNO2, H5, H6⟩
             case measure => simp [intOf]; omega)
          | (refine ⟨?_, ?_⟩
             · (repeat apply Exists.intro)
               refine ⟨?_, rfl⟩
               exact ⟨i + 1, i + 1, PL2, Nat.le_refl _, by omega, by go_num, by go_num, H7, HCU2, HNO2, H5, H6⟩
             · simp [intOf]; omega)
      · have hxb : (((s[i]'hin).toNat : Int) == (c.toNat : Int)) = false := beq_eq_false_iff_ne.2 (fun e => hx (UInt8.toNat_inj.1 (by omega)))
        have hxn : ¬ (((s[i]'hin).toNat : Int) = (c.toNat : Int)) := fun e => hx (UInt8.toNat_inj.1 (by omega))
        have HNO2 : Hid (∀ j, fr ≤ j → j < i + 1 → s.data.toList[j]? ≠ some c) := Lib.hid (fun j h1 h2 => by
          rcases Nat.lt_or_ge j i with h3 | h3
          · exact HNO.out j h1 h3
          · obtain rfl : j = i := by omega
            rw [hsm]
            intro e
            exact hx (Option.some.inj e))
        clear hsm hx HNO
        go_wp2_with fail
        first
          | (go_roundw
             case rel => exact ⟨i + 1, fr, PL, by omega, by omega, rfl, by go_num, HLN, HCU, HNO2, HOW, HB⟩
             case measure => simp [intOf]; omega)
          | (refine ⟨?_, ?_⟩
             · (repeat apply Exists.intro)
               refine ⟨?_, rfl⟩
               exact ⟨i + 1, fr, PL, by omega, by omega, rfl, by go_num, HLN, HCU, HNO2, HOW, HB⟩
             · simp [intOf]; omega)
    · have hie : i = s.size := by omega
      have hfs : fr ≤ s.size := by omega
      have hfI : (fr : Int) ≤ (s.size : Int) := by omega
      have HCU2 : Hid ((PL ++ [s.extract fr s.size]).map (·.data.toList) = cutS c s.data.toList) := Lib.hid (by
        rw [HCU.out, cut_end (fun j h1 h2 => HNO.out j h1 (by have := HSL.out; omega)), List.map_append]
        simp only [List.map_cons, List.map_nil, ext_list]
        rw [List.take_of_length_le (by rw [List.length_drop]; have := HSL.out; omega)])
      clear HCU HNO
      go_wp2_with (at_builtin; refine wpList_append_own _ rfl _ _ 29 rfl w.heap.size 9 i0 (.string ⟨#[]⟩) 1 16 Tryd.underlying29 HI.out.1 HI.out.2.1 HI.out.2.2.1 HI.out.2.2.2 rfl (by decide) _ PL.length _ rfl (HOW.out.alloc _) ⟨w3.heap.size, 0, none⟩ 1 1 [.string (s.extract fr s.size)] rfl ?c1 ?c2 ?c3 ?c4 ?c5 ?c6 ?_)
      case c1 => rfl
      case c2 => exact World.news_of_block (heap_alloc_new _ _)
      case c3 => (intro u hu; simp only [List.mem_cons, List.not_mem_nil, or_false] at hu; rcases hu with rfl; rfl)
      case c4 => unfold maxLen; have := HLN.out; omega
      case c5 => have := HLN.out; omega
      case c6 => have := HB.out.size; simp; omega
      intro v' w6 hown1 hgrow _
      have hlt1 := HOW.out.lt
      have H5 : Hid (w6.ownsRow w.heap.size 9 1 v' (PL ++ [s.extract fr s.size]).length ((PL ++ [s.extract fr s.size]).map Value.string)) := Lib.hid (by rw [List.map_append, List.length_append]; exact hown1)
      have H6 : Hid (Below w.heap.size w w6) := Lib.hid ((HB.out.alloc HB.out.size _).grown hgrow (by have := HB.out.size; simp; omega) (fun j hj => (hlt1 j hj).1))
      clear hown1 hgrow hlt1
      go_wp2_with fail
      go_ret
      exact CutE.of H5.out HCU2.out H6.out
set_option maxRecDepth 100000 in
set_option maxHeartbeats 4000000 in
theorem rwith_any (i : Ins) {f : UInt8} (hf : isL f = true) (n : Int) (w : World) : Calls Tryd.prog 50 #[.agg (inA i), .int .u8 f.toNat, .int .i64 n] w fun e w' => e = .returned (.agg (inA (setI i f n))) ∧ Below w.heap.size w w' := by
  obtain ⟨op, a, b, c, d⟩ := i
  have hf2 := hf
  unfold isL at hf2
  simp only [Bool.or_eq_true, beq_iff_eq] at hf2
  rcases hf2 with ((rfl | rfl) | rfl) | rfl
  · clear hf
    show Calls Tryd.prog 50 #[.agg #[.int .i64 op, .int .i64 a, .int .i64 b, .int .i64 c, .int .i64 d], .int .u8 97, .int .i64 n] w _
    show Calls Tryd.prog 50 _ w fun e w' => e = .returned (.agg #[.int .i64 op, .int .i64 n, .int .i64 b, .int .i64 c, .int .i64 d]) ∧ Below w.heap.size w w'
    have M0 := Lib.hid (((Has.start (Below.refl w.heap.size w) (Nat.le_refl _)).newcel 39 #[.int .i64 op, .int .i64 a, .int .i64 b, .int .i64 c, .int .i64 d]).newcel 39 #[.int .i64 0, .int .i64 0, .int .i64 0, .int .i64 0, .int .i64 0])
    have e1 : (w.alloc (.cells #[.int .i64 op, .int .i64 a, .int .i64 b, .int .i64 c, .int .i64 d] 39)).heap.size = w.heap.size + 1 := by simp
    rw [e1] at M0
    go_enter Tryd.func50, Tryd.ntmps50
    go_upto_region 1 with (fail)
    obtain ⟨W, hW⟩ : ∃ W, ((w.alloc (.cells #[.int .i64 op, .int .i64 a, .int .i64 b, .int .i64 c, .int .i64 d] 39)).alloc (.cells #[.int .i64 0, .int .i64 0, .int .i64 0, .int .i64 0, .int .i64 0] 39)) = W := ⟨_, rfl⟩
    rw [hW] at M0 ⊢
    clear hW e1
    generalize w.heap.size + 1 = b1 at M0 ⊢
    generalize hB : w.heap.size = b0 at M0 ⊢
    have HB := Lib.hid hB
    clear hB
    have M1 : Hid (Has b0 w W (Star (Cel b1 39 #[.int .i64 0, .int .i64 0, .int .i64 0, .int .i64 0, .int .i64 0]) (Star (Cel b0 39 #[.int .i64 op, .int .i64 a, .int .i64 b, .int .i64 c, .int .i64 d]) Emp))) := M0
    clear M0
    have lv : W.frozen? ⟨b0, 1, none⟩ = false := M1.out.liveat b0 1
    have M2 := Lib.hid (M1.out.cellc b0 1 (.int .i64 n) #[.int .i64 op, .int .i64 n, .int .i64 b, .int .i64 c, .int .i64 d] rfl)
    have ol : W.cell? ⟨b0, 1, none⟩ = some (.int .i64 a) := M1.out.cellat b0 1 rfl
    go_upto_region 9 with (fail)
    obtain ⟨W2, hW⟩ : ∃ W2, W.setCell ⟨b0, 1, none⟩ (.int .i64 n) = W2 := ⟨_, rfl⟩
    rw [hW] at M2 ⊢
    clear hW lv ol M1
    have M3 := Lib.hid (M2.out.rowc b1 #[.int .i64 op, .int .i64 n, .int .i64 b, .int .i64 c, .int .i64 d])
    go_wp2_with (first | (refine wpList_rowW (by kernel_rfl) 39 _ rfl b0 rfl #[.int .i64 op, .int .i64 n, .int .i64 b, .int .i64 c, .int .i64 d] _ (M2.out.getc b0) Tryd.underlying39 rfl (by kernel_rfl) ?_) | (refine wpList_store_row rfl 39 _ _ rfl b1 #[.int .i64 op, .int .i64 n, .int .i64 b, .int .i64 c, .int .i64 d] rfl rfl 39 #[.int .i64 0, .int .i64 0, .int .i64 0, .int .i64 0, .int .i64 0] (M2.out.getc b1) (by kernel_rfl) rfl (by kernel_rfl) ?_))
    refine bodyPost_ret (results_cell_row (p := 6) (ty := 39) rfl _ _ b1 39 #[.int .i64 op, .int .i64 n, .int .i64 b, .int .i64 c, .int .i64 d] (0, 0) _ (by kernel_rfl) (M3.out.getc b1) Tryd.underlying39 rfl (by kernel_rfl)) rfl ?_
    exact ⟨rfl, by rw [HB.out]; exact M3.out.bel⟩
  · clear hf
    show Calls Tryd.prog 50 #[.agg #[.int .i64 op, .int .i64 a, .int .i64 b, .int .i64 c, .int .i64 d], .int .u8 98, .int .i64 n] w _
    show Calls Tryd.prog 50 _ w fun e w' => e = .returned (.agg #[.int .i64 op, .int .i64 a, .int .i64 n, .int .i64 c, .int .i64 d]) ∧ Below w.heap.size w w'
    have M0 := Lib.hid (((Has.start (Below.refl w.heap.size w) (Nat.le_refl _)).newcel 39 #[.int .i64 op, .int .i64 a, .int .i64 b, .int .i64 c, .int .i64 d]).newcel 39 #[.int .i64 0, .int .i64 0, .int .i64 0, .int .i64 0, .int .i64 0])
    have e1 : (w.alloc (.cells #[.int .i64 op, .int .i64 a, .int .i64 b, .int .i64 c, .int .i64 d] 39)).heap.size = w.heap.size + 1 := by simp
    rw [e1] at M0
    go_enter Tryd.func50, Tryd.ntmps50
    go_upto_region 1 with (fail)
    obtain ⟨W, hW⟩ : ∃ W, ((w.alloc (.cells #[.int .i64 op, .int .i64 a, .int .i64 b, .int .i64 c, .int .i64 d] 39)).alloc (.cells #[.int .i64 0, .int .i64 0, .int .i64 0, .int .i64 0, .int .i64 0] 39)) = W := ⟨_, rfl⟩
    rw [hW] at M0 ⊢
    clear hW e1
    generalize w.heap.size + 1 = b1 at M0 ⊢
    generalize hB : w.heap.size = b0 at M0 ⊢
    have HB := Lib.hid hB
    clear hB
    have M1 : Hid (Has b0 w W (Star (Cel b1 39 #[.int .i64 0, .int .i64 0, .int .i64 0, .int .i64 0, .int .i64 0]) (Star (Cel b0 39 #[.int .i64 op, .int .i64 a, .int .i64 b, .int .i64 c, .int .i64 d]) Emp))) := M0
    clear M0
    have lv : W.frozen? ⟨b0, 2, none⟩ = false := M1.out.liveat b0 2
    have M2 := Lib.hid (M1.out.cellc b0 2 (.int .i64 n) #[.int .i64 op, .int .i64 a, .int .i64 n, .int .i64 c, .int .i64 d] rfl)
    have ol : W.cell? ⟨b0, 2, none⟩ = some (.int .i64 b) := M1.out.cellat b0 2 rfl
    go_upto_region 9 with (fail)
    obtain ⟨W2, hW⟩ : ∃ W2, W.setCell ⟨b0, 2, none⟩ (.int .i64 n) = W2 := ⟨_, rfl⟩
    rw [hW] at M2 ⊢
    clear hW lv ol M1
    have M3 := Lib.hid (M2.out.rowc b1 #[.int .i64 op, .int .i64 a, .int .i64 n, .int .i64 c, .int .i64 d])
    go_wp2_with (first | (refine wpList_rowW (by kernel_rfl) 39 _ rfl b0 rfl #[.int .i64 op, .int .i64 a, .int .i64 n, .int .i64 c, .int .i64 d] _ (M2.out.getc b0) Tryd.underlying39 rfl (by kernel_rfl) ?_) | (refine wpList_store_row rfl 39 _ _ rfl b1 #[.int .i64 op, .int .i64 a, .int .i64 n, .int .i64 c, .int .i64 d] rfl rfl 39 #[.int .i64 0, .int .i64 0, .int .i64 0, .int .i64 0, .int .i64 0] (M2.out.getc b1) (by kernel_rfl) rfl (by kernel_rfl) ?_))
    refine bodyPost_ret (results_cell_row (p := 6) (ty := 39) rfl _ _ b1 39 #[.int .i64 op, .int .i64 a, .int .i64 n, .int .i64 c, .int .i64 d] (0, 0) _ (by kernel_rfl) (M3.out.getc b1) Tryd.underlying39 rfl (by kernel_rfl)) rfl ?_
    exact ⟨rfl, by rw [HB.out]; exact M3.out.bel⟩
  · clear hf
    show Calls Tryd.prog 50 #[.agg #[.int .i64 op, .int .i64 a, .int .i64 b, .int .i64 c, .int .i64 d], .int .u8 99, .int .i64 n] w _
    show Calls Tryd.prog 50 _ w fun e w' => e = .returned (.agg #[.int .i64 op, .int .i64 a, .int .i64 b, .int .i64 n, .int .i64 d]) ∧ Below w.heap.size w w'
    have M0 := Lib.hid (((Has.start (Below.refl w.heap.size w) (Nat.le_refl _)).newcel 39 #[.int .i64 op, .int .i64 a, .int .i64 b, .int .i64 c, .int .i64 d]).newcel 39 #[.int .i64 0, .int .i64 0, .int .i64 0, .int .i64 0, .int .i64 0])
    have e1 : (w.alloc (.cells #[.int .i64 op, .int .i64 a, .int .i64 b, .int .i64 c, .int .i64 d] 39)).heap.size = w.heap.size + 1 := by simp
    rw [e1] at M0
    go_enter Tryd.func50, Tryd.ntmps50
    go_upto_region 1 with (fail)
    obtain ⟨W, hW⟩ : ∃ W, ((w.alloc (.cells #[.int .i64 op, .int .i64 a, .int .i64 b, .int .i64 c, .int .i64 d] 39)).alloc (.cells #[.int .i64 0, .int .i64 0, .int .i64 0, .int .i64 0, .int .i64 0] 39)) = W := ⟨_, rfl⟩
    rw [hW] at M0 ⊢
    clear hW e1
    generalize w.heap.size + 1 = b1 at M0 ⊢
    generalize hB : w.heap.size = b0 at M0 ⊢
    have HB := Lib.hid hB
    clear hB
    have M1 : Hid (Has b0 w W (Star (Cel b1 39 #[.int .i64 0, .int .i64 0, .int .i64 0, .int .i64 0, .int .i64 0]) (Star (Cel b0 39 #[.int .i64 op, .int .i64 a, .int .i64 b, .int .i64 c, .int .i64 d]) Emp))) := M0
    clear M0
    have lv : W.frozen? ⟨b0, 3, none⟩ = false := M1.out.liveat b0 3
    have M2 := Lib.hid (M1.out.cellc b0 3 (.int .i64 n) #[.int .i64 op, .int .i64 a, .int .i64 b, .int .i64 n, .int .i64 d] rfl)
    have ol : W.cell? ⟨b0, 3, none⟩ = some (.int .i64 c) := M1.out.cellat b0 3 rfl
    go_upto_region 9 with (fail)
    obtain ⟨W2, hW⟩ : ∃ W2, W.setCell ⟨b0, 3, none⟩ (.int .i64 n) = W2 := ⟨_, rfl⟩
    rw [hW] at M2 ⊢
    clear hW lv ol M1
    have M3 := Lib.hid (M2.out.rowc b1 #[.int .i64 op, .int .i64 a, .int .i64 b, .int .i64 n, .int .i64 d])
    go_wp2_with (first | (refine wpList_rowW (by kernel_rfl) 39 _ rfl b0 rfl #[.int .i64 op, .int .i64 a, .int .i64 b, .int .i64 n, .int .i64 d] _ (M2.out.getc b0) Tryd.underlying39 rfl (by kernel_rfl) ?_) | (refine wpList_store_row rfl 39 _ _ rfl b1 #[.int .i64 op, .int .i64 a, .int .i64 b, .int .i64 n, .int .i64 d] rfl rfl 39 #[.int .i64 0, .int .i64 0, .int .i64 0, .int .i64 0, .int .i64 0] (M2.out.getc b1) (by kernel_rfl) rfl (by kernel_rfl) ?_))
    refine bodyPost_ret (results_cell_row (p := 6) (ty := 39) rfl _ _ b1 39 #[.int .i64 op, .int .i64 a, .int .i64 b, .int .i64 n, .int .i64 d] (0, 0) _ (by kernel_rfl) (M3.out.getc b1) Tryd.underlying39 rfl (by kernel_rfl)) rfl ?_
    exact ⟨rfl, by rw [HB.out]; exact M3.out.bel⟩
  · clear hf
    show Calls Tryd.prog 50 #[.agg #[.int .i64 op, .int .i64 a, .int .i64 b, .int .i64 c, .int .i64 d], .int .u8 110, .int .i64 n] w _
    show Calls Tryd.prog 50 _ w fun e w' => e = .returned (.agg #[.int .i64 op, .int .i64 a, .int .i64 b, .int .i64 c, .int .i64 n]) ∧ Below w.heap.size w w'
    have M0 := Lib.hid (((Has.start (Below.refl w.heap.size w) (Nat.le_refl _)).newcel 39 #[.int .i64 op, .int .i64 a, .int .i64 b, .int .i64 c, .int .i64 d]).newcel 39 #[.int .i64 0, .int .i64 0, .int .i64 0, .int .i64 0, .int .i64 0])
    have e1 : (w.alloc (.cells #[.int .i64 op, .int .i64 a, .int .i64 b, .int .i64 c, .int .i64 d] 39)).heap.size = w.heap.size + 1 := by simp
    rw [e1] at M0
    go_enter Tryd.func50, Tryd.ntmps50
    go_upto_region 1 with (fail)
    obtain ⟨W, hW⟩ : ∃ W, ((w.alloc (.cells #[.int .i64 op, .int .i64 a, .int .i64 b, .int .i64 c, .int .i64 d] 39)).alloc (.cells #[.int .i64 0, .int .i64 0, .int .i64 0, .int .i64 0, .int .i64 0] 39)) = W := ⟨_, rfl⟩
    rw [hW] at M0 ⊢
    clear hW e1
    generalize w.heap.size + 1 = b1 at M0 ⊢
    generalize hB : w.heap.size = b0 at M0 ⊢
    have HB := Lib.hid hB
    clear hB
    have M1 : Hid (Has b0 w W (Star (Cel b1 39 #[.int .i64 0, .int .i64 0, .int .i64 0, .int .i64 0, .int .i64 0]) (Star (Cel b0 39 #[.int .i64 op, .int .i64 a, .int .i64 b, .int .i64 c, .int .i64 d]) Emp))) := M0
    clear M0
    have lv : W.frozen? ⟨b0, 4, none⟩ = false := M1.out.liveat b0 4
    have M2 := Lib.hid (M1.out.cellc b0 4 (.int .i64 n) #[.int .i64 op, .int .i64 a, .int .i64 b, .int .i64 c, .int .i64 n] rfl)
    have ol : W.cell? ⟨b0, 4, none⟩ = some (.int .i64 d) := M1.out.cellat b0 4 rfl
    go_upto_region 9 with (fail)
    obtain ⟨W2, hW⟩ : ∃ W2, W.setCell ⟨b0, 4, none⟩ (.int .i64 n) = W2 := ⟨_, rfl⟩
    rw [hW] at M2 ⊢
    clear hW lv ol M1
    have M3 := Lib.hid (M2.out.rowc b1 #[.int .i64 op, .int .i64 a, .int .i64 b, .int .i64 c, .int .i64 n])
    go_wp2_with (first | (refine wpList_rowW (by kernel_rfl) 39 _ rfl b0 rfl #[.int .i64 op, .int .i64 a, .int .i64 b, .int .i64 c, .int .i64 n] _ (M2.out.getc b0) Tryd.underlying39 rfl (by kernel_rfl) ?_) | (refine wpList_store_row rfl 39 _ _ rfl b1 #[.int .i64 op, .int .i64 a, .int .i64 b, .int .i64 c, .int .i64 n] rfl rfl 39 #[.int .i64 0, .int .i64 0, .int .i64 0, .int .i64 0, .int .i64 0] (M2.out.getc b1) (by kernel_rfl) rfl (by kernel_rfl) ?_))
    refine bodyPost_ret (results_cell_row (p := 6) (ty := 39) rfl _ _ b1 39 #[.int .i64 op, .int .i64 a, .int .i64 b, .int .i64 c, .int .i64 n] (0, 0) _ (by kernel_rfl) (M3.out.getc b1) Tryd.underlying39 rfl (by kernel_rfl)) rfl ?_
    exact ⟨rfl, by rw [HB.out]; exact M3.out.bel⟩
/-! ### What Typed answers -/
def lwR (f : UInt8) (x : List UInt8) : Option Int := if f = 110 then numS x else match x with
  | c :: r => if c = 114 then numS r else none
  | [] => none
def goR : List UInt8 → List (List UInt8) → Ins → Option Ins
  | [], _, i => some i
  | f :: fs, x :: ws, i => match lwR f x with
    | some n => goR fs ws (setI i f n)
    | none => none
  | _ :: _, [], _ => none
theorem lwR_of {f : UInt8} {x : List UInt8} {n : Int} (h : lwS f x = some n) : lwR f x = some n := by
  have num : ∀ {s : List UInt8} {lo hi : Int}, numR s lo hi = some n → numS s = some n := by
    intro s lo hi h
    unfold numR at h
    cases e : numS s with
    | none => rw [e] at h; cases h
    | some v =>
      rw [e] at h
      simp only at h
      split at h
      · exact h
      · cases h
  unfold lwS at h
  unfold lwR
  split at h
  · rename_i h1
    rw [if_pos h1]
    exact num h
  · rename_i h1
    rw [if_neg h1]
    cases x with
    | nil => cases h
    | cons c r =>
      simp only at h ⊢
      split at h
      · rename_i h2
        rw [if_pos h2]
        exact num h
      · cases h
theorem lwR_inv {f : UInt8} {x : List UInt8} {n : Int} (h : lwR f x = some n) : x = wdN f n := by
  unfold lwR at h
  unfold wdN
  split at h
  · rename_i h1
    rw [if_pos h1]
    exact (numS_some h).2.symm
  · rename_i h1
    rw [if_neg h1]
    cases x with
    | nil => cases h
    | cons c r =>
      simp only at h
      split at h
      · rename_i h2
        rw [h2]
        show 114 :: r = 114 :: itoa n
        rw [(numS_some h).2]
      · cases h
theorem goR_of : ∀ (fs : List UInt8) (ws : List (List UInt8)) (i j : Ins), goS fs ws i = some j → goR fs ws i = some j
  | [], _, i, j, h => h
  | f :: fs, [], i, j, h => by cases h
  | f :: fs, x :: ws, i, j, h => by
    unfold goS at h
    unfold goR
    cases e : lwS f x with
    | none => rw [e] at h; cases h
    | some n =>
      rw [e] at h
      rw [lwR_of e]
      exact goR_of fs ws _ j h
/-- What Typed finds in a line; its answer is this, where it may be. -/
def typeR (l : List UInt8) : Option Ins :=
  match fndS ((cutS 32 l).headD []) 23 0 with
  | none => none
  | some k => if (cutS 32 l).length = (opF k).length + 1 then goR (opF k) (cutS 32 l).tail ⟨k, 0, 0, 0, 0⟩ else none
theorem typeR_of {p : List UInt8} {i : Ins} (h : typeS p = some i) : typeR p = some i := by
  unfold typeS at h
  unfold typeR
  cases hf : fndS ((cutS 32 p).headD []) 23 0 with
  | none => rw [hf] at h; cases h
  | some k =>
    rw [hf] at h
    simp only at h ⊢
    split at h
    · rename_i hl
      rw [if_pos hl]
      exact goR_of _ _ _ _ h
    · cases h
theorem typeR_line {p : List UInt8} {i : Ins} (h : typeR p = some i) : lineS i = p := by
  unfold typeR at h
  have hj := joinS_cut 32 p
  cases hc : cutS 32 p with
  | nil => exact absurd hc (cutS_ne _ _)
  | cons w0 ws =>
  rw [hc] at h hj
  simp only [List.headD_cons, List.length_cons, List.tail_cons] at h
  cases hf : fndS w0 23 0 with
  | none => rw [hf] at h; cases h
  | some k =>
  rw [hf] at h
  obtain ⟨hn, _, hk⟩ := fnd_inv 23 0 k hf
  simp only at h
  split at h
  case isFalse => cases h
  rename_i hl
  have hk23 : k < 23 := by omega
  unfold joinS at hj
  have hF := forms ⟨k, hk23⟩
  simp only at hF
  have step : ∀ (f : UInt8) (fs : List UInt8) (x : List UInt8) (r : List (List UInt8)) (acc j : Ins), goR (f :: fs) (x :: r) acc = some j → ∃ n, x = wdN f n ∧ goR fs r (setI acc f n) = some j := by
    intro f fs x r acc j h
    unfold goR at h
    cases e : lwR f x with
    | none => rw [e] at h; cases h
    | some n =>
      rw [e] at h
      exact ⟨n, lwR_inv e, h⟩
  have fin : ∀ (F : List UInt8), opF k = F → i.op = k → ws = F.map (fun f => wdN f (prt i (kOf f))) → lineS i = p := by
    intro F hF ho hw
    rw [lineS_op ho, hF, ← hw, ← hj, hn]
  have nilW : ws.length = (opF k).length := by omega
  rcases hF with e | e | e | e | e | e | e
  all_goals
    rw [e] at h nilW
    refine fin _ e ?_ ?_
  all_goals
    first
      | (match ws, nilW with
         | [], _ =>
           simp only [goR, Option.some.injEq] at h
           subst h
           first | rfl | (simp [setI]; done) | (simp [setI, prt, kOf]; done)
         done)
      | (match ws, nilW with
         | [x], _ =>
           obtain ⟨n, rfl, h2⟩ := step _ _ _ _ _ _ h
           simp only [goR, Option.some.injEq] at h2
           clear h
           subst h2
           first | rfl | (simp [setI]; done) | (simp [setI, prt, kOf]; done)
         done)
      | (match ws, nilW with
         | [x, y], _ =>
           obtain ⟨n, rfl, h2⟩ := step _ _ _ _ _ _ h
           obtain ⟨m, rfl, h3⟩ := step _ _ _ _ _ _ h2
           simp only [goR, Option.some.injEq] at h3
           clear h h2
           subst h3
           first | rfl | (simp [setI]; done) | (simp [setI, prt, kOf]; done)
         done)
      | (match ws, nilW with
         | [x, y, z], _ =>
           obtain ⟨n, rfl, h2⟩ := step _ _ _ _ _ _ h
           obtain ⟨m, rfl, h3⟩ := step _ _ _ _ _ _ h2
           obtain ⟨q, rfl, h4⟩ := step _ _ _ _ _ _ h3
           simp only [goR, Option.some.injEq] at h4
           clear h h2 h3
           subst h4
           first | rfl | (simp [setI]; done) | (simp [setI, prt, kOf]; done)
         done)
theorem typed_none {p : List UInt8} (h : typeR p = none) : typeS p = none := by
  cases e : typeS p with
  | none => rfl
  | some i => rw [typeR_of e] at h; cases h
theorem typed_some {p : List UInt8} {i : Ins} (h : typeR p = some i) : typeS p = if mayS i = true then some i else none := by
  by_cases hm : mayS i = true
  · rw [if_pos hm, ← typeR_line h]
    exact type_line hm
  · rw [if_neg hm]
    cases e : typeS p with
    | none => rfl
    | some j =>
      rw [typeR_of e] at h
      obtain rfl : j = i := Option.some.inj h
      exact absurd (type_inv e).2 hm
end Go.Proofs.YtmbacegbcccdjaaDoor
