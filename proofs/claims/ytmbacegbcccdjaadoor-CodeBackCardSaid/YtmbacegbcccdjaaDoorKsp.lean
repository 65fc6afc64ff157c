/-
  Layer 4: strings.Split at a separator of one byte, however long the text is, as long as its pieces' row is below the model's greatest slice.
  Conditions: none. (My own text.)
-/
import Derived.Test.YtmbacegbcccdjaaDoorKne
import Derived.Deep.OwnRows
import Derived.Lib.SplitLaws
import Derived.Lib.CutLaws
import Derived.Shelf.Strings.Search3
import Derived.Shelf.Strings.Count
namespace Go.Proofs.YtmbacegbcccdjaaDoor
open Go.RowKit Spm
set_option linter.unusedVariables false
set_option linter.unusedSimpArgs false

open Go.Lib hiding intOf
attribute [local irreducible] wpList
theorem index1_any (x : ByteArray) (c : UInt8) (W : World) : Calls Tryd.prog 56 #[.string x, .string ⟨#[c]⟩] W fun e w' => e = .returned (.int .i64 (indexB x ⟨#[c]⟩)) ∧ w' = W :=
  (show Calls Tryd.prog 56 #[.string x, .string ⟨#[c]⟩] W _ from Go.Proofs.Any.strings_Index_one { Tryd.lays146 with } x c W).mono fun e w' ⟨he, hw⟩ => ⟨by
    rw [he]
    show _ = Ending.returned (.int .i64 (index x.data.toList [c]))
    rw [index_one], hw⟩
theorem count1_any (x : ByteArray) (c : UInt8) (W : World) : Calls Tryd.prog 55 #[.string x, .string ⟨#[c]⟩] W fun e w' => e = .returned (.int .i64 (countB x ⟨#[c]⟩)) ∧ w' = W :=
  (show Calls Tryd.prog 55 #[.string x, .string ⟨#[c]⟩] W _ from Go.Proofs.Any.strings_Count_one { Tryd.lays146 with } x c W).mono fun e w' ⟨he, hw⟩ => ⟨by
    rw [he]
    show _ = Ending.returned (Value.int .i64 ((count x.data.toList [c] : Nat) : Int))
    rw [count_one]
    rfl, hw⟩
set_option maxRecDepth 100000 in
theorem str_infoK : (Tryd.prog.info? 9).map (fun i => (i.zero, i.size, i.bytes)) = some (some (.string ByteArray.empty), 1, 16) := by kernel_rfl
set_option maxRecDepth 100000 in
set_option maxHeartbeats 4000000 in
theorem gsp_any (s : ByteArray) (c : UInt8) (hs : s.size ≤ 4611686018427387904) (hn : countB s ⟨#[c]⟩ + 1 ≤ 17592186044416) (w : World) : Calls Tryd.prog 46 #[.string s, .string ⟨#[c]⟩, .int .i64 0, .int .i64 (-1)] w fun e w' =>
    e = .returned (.slice (some ⟨w.heap.size, 0, none⟩) (countB s ⟨#[c]⟩ + 1) (countB s ⟨#[c]⟩ + 1)) ∧ w' = w.alloc (.cells ((splitB ⟨#[c]⟩ 0 (countB s ⟨#[c]⟩) s).map Value.string).toArray 9) := by
  have hle := countB_le ⟨#[c]⟩ (Nat.le_refl 1) s.size s (Nat.le_refl _)
  have HLN := Lib.hid (splitB_all ⟨#[c]⟩ (Nat.le_refl 1) 0 (countB s ⟨#[c]⟩) s rfl)
  have CC := Lib.hid (count1_any s c w)
  have CI := Lib.hid (fun (x : ByteArray) (W : World) => index1_any x c W)
  obtain ⟨cn, hcn⟩ : ∃ cn : Nat, countB s ⟨#[c]⟩ = cn := ⟨_, rfl⟩
  rw [hcn] at hle hn HLN CC ⊢
  clear hcn
  have HP : Hid (((splitB ⟨#[c]⟩ 0 cn s).map Value.string).toArray = cellsOf (splitB ⟨#[c]⟩ 0 cn s) (cn + 1)) := Lib.hid (by rw [← HLN.out]; exact (cellsOf_full _).symm)
  rw [HP.out]
  obtain ⟨PL, hPL⟩ : ∃ PL, splitB ⟨#[c]⟩ 0 cn s = PL := ⟨_, rfl⟩
  have HPL := Lib.hid hPL
  rw [hPL] at HLN HP ⊢
  clear hPL HP
  obtain ⟨N, hN⟩ : ∃ N : Nat, cn + 1 = N := ⟨_, rfl⟩
  have HN := Lib.hid hN
  rw [hN] at HLN ⊢
  have eN : min ((cn : Int) + 1) ((s.size : Int) + 1) = (N : Int) := by omega
  have hmk := run_make_row' (P := Tryd.prog) 29 9 (.string ByteArray.empty) 16 Tryd.underlying29 str_infoK rfl .i64 .i64 N (by omega) (by omega)
  have hN63 : (N : Int) ≤ 17592186044416 := by omega
  have hN1 : (1 : Int) ≤ (N : Int) := by omega
  clear hN
  go_enter Tryd.func46, Tryd.ntmps46
  go_wp2_with fail
  refine (CC.out).mono ?_
  rintro e w1 ⟨rfl, hw1⟩
  obtain rfl := hw1.symm
  clear CC
  go_wp2_with fail
  clear hmk eN
  go_loopw [0, 10] (fun x i wr => ∃ (done : List ByteArray) (rest : ByteArray), x = .string rest ∧ i = .int .i64 done.length ∧ done.length ≤ N - 1 ∧ rest.size ≤ s.size ∧ wr = w.alloc (.cells (cellsOf done N) 9) ∧ Hid (done ++ splitB ⟨#[c]⟩ 0 (N - 1 - done.length) rest = PL)) (fun _ i _ => N - (intOf i).toNat)
  case atStart => exact ⟨[], s, rfl, rfl, Nat.zero_le _, Nat.le_refl _, by rw [cellsOf_nil], Lib.hid (by rw [← HPL.out]; simp [← HN.out])⟩
  case round =>
    obtain ⟨done, rest, rfl, rfl, hd, hrs, rfl, HS⟩ := hrel
    have hnext : (cellsOf done N)[done.length]? = some (.string ByteArray.empty) := cellsOf_next (by omega)
    by_cases hlt : done.length < N - 1
    · have hltz : ((done.length : Nat) : Int) < (N : Int) - 1 := by omega
      rcases indexB_cases rest ⟨#[c]⟩ with hix | ⟨i, hix, hroom⟩
      · exfalso
        have e1 := HS.out
        rw [splitB_miss _ _ _ rest hix] at e1
        have e2 := HLN.out
        rw [← e1] at e2
        simp at e2
        omega
      · have C1 := Lib.hid (CI.out rest (w.alloc (.cells (cellsOf done N) 9)))
        rw [hix] at C1
        have hr1 : i + 1 ≤ rest.size := hroom
        have HIX := Lib.hid hix
        clear hroom hix
        have c1 : ¬ ((i : Int) < 0) := by omega
        have c2 : (i : Int) ≤ (rest.size : Int) := by omega
        have c3 : (i : Int) + 1 ≤ (rest.size : Int) := by omega
        go_wp2_with fail
        refine (C1.out).mono ?_
        rintro e w2 ⟨rfl, hw2⟩
        obtain rfl := hw2
        clear C1
        go_wp2_with fail
        go_roundw
        case rel =>
          refine ⟨done ++ [rest.extract 0 (i + 0)], rest.extract (i + 1) rest.size, ?_, ?_, ?_, ?_, ?_, Lib.hid ?_⟩
          · rfl
          · simp
          · simp only [List.length_append, List.length_cons, List.length_nil]; omega
          · rw [ByteArray.size_extract]; omega
          · rw [← cellsOf_set (by omega)]; rfl
          · have e1 := HS.out
            rw [show N - 1 - done.length = (N - 1 - (done.length + 1)) + 1 by omega, splitB_hit _ _ _ rest i HIX.out] at e1
            rw [← e1]
            simp only [List.length_append, List.length_cons, List.length_nil, List.append_assoc, List.cons_append, List.nil_append]
            rfl
        case measure => simp [intOf]; omega
    · have hltz : ¬ (((done.length : Nat) : Int) < (N : Int) - 1) := by omega
      have HDE : Hid (done.length = N - 1) := Lib.hid (by omega)
      have HE : Hid (cellsOf PL N = (cellsOf done N).setIfInBounds done.length (.string rest)) := Lib.hid (by
        have e1 := HS.out
        rw [HDE.out, Nat.sub_self] at e1
        rw [← e1, cellsOf_set (by omega)]
        rfl)
      have hd2 : (done.length : Int) + 1 ≤ (N : Int) := by omega
      go_wp2_with fail
      go_ret
      refine ⟨?_, by rw [HE.out]⟩
      rw [show N = done.length + 1 by have := HDE.out; omega]
      rfl
set_option maxRecDepth 100000 in
set_option maxHeartbeats 4000000 in
theorem split1_any (s : ByteArray) (c : UInt8) (hs : s.size ≤ 4611686018427387904) (hn : countB s ⟨#[c]⟩ + 1 ≤ 17592186044416) (w : World) : Calls Tryd.prog 26 #[.string s, .string ⟨#[c]⟩] w fun e w' =>
    e = .returned (.slice (some ⟨w.heap.size, 0, none⟩) (countB s ⟨#[c]⟩ + 1) (countB s ⟨#[c]⟩ + 1)) ∧ w' = w.alloc (.cells ((splitB ⟨#[c]⟩ 0 (countB s ⟨#[c]⟩) s).map Value.string).toArray 9) := by
  have C1 := Lib.hid (gsp_any s c hs hn w)
  generalize countB s ⟨#[c]⟩ + 1 = N at C1 ⊢
  generalize (w.alloc (.cells ((splitB ⟨#[c]⟩ 0 (countB s ⟨#[c]⟩) s).map Value.string).toArray 9)) = W at C1 ⊢
  clear hs hn
  go_enter Tryd.func26, Tryd.ntmps26
  go_wp2_with fail
  refine (C1.out).mono ?_
  rintro e w2 ⟨rfl, rfl⟩
  clear C1
  go_wp2_with fail
  go_ret
  exact ⟨rfl, rfl⟩
end Go.Proofs.YtmbacegbcccdjaaDoor
