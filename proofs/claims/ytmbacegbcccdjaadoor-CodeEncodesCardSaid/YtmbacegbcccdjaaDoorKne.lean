/-
  Layer 4: the program's line: what it computes.
  Conditions: none. (My own text.)
-/
import Derived.Test.YtmbacegbcccdjaaDoorKnd
import Derived.Test.YtmbacegbcccdjaaDoorCdb
import Derived.Test.YtmbacegbcccdjaaDoorPk
import Derived.Test.YtmbacegbcccdjaaDoorPcm
namespace Go.Proofs.YtmbacegbcccdjaaDoor
open Go.RowKit Spm
set_option linter.unusedVariables false
set_option linter.unusedSimpArgs false

open Go.Lib hiding intOf
attribute [local irreducible] wpList
def inA (i : Ins) : Array Value := #[.int .i64 i.op, .int .i64 i.a, .int .i64 i.b, .int .i64 i.c, .int .i64 i.n]
theorem ins_val (i : Ins) : i.val = .agg (inA i) := rfl
/-- What a line is, told. -/
def LineE (o : Option Ins) (w : World) (e : Ending) (w' : World) : Prop := (∃ (i : Ins) (ok : Bool), e = .returned (.tuple #[i.val, .bool ok]) ∧ (match o with | some j => ok = true ∧ i = j | none => ok = false)) ∧ Below w.heap.size w w'
theorem shA_name (n : Nat) (h : n < 23) : shA[n * 2]? = some (.string (nameS n)) := by
  obtain rfl | rfl | rfl | rfl | rfl | rfl | rfl | rfl | rfl | rfl | rfl | rfl | rfl | rfl | rfl | rfl | rfl | rfl | rfl | rfl | rfl | rfl | rfl : n = 0 ∨ n = 1 ∨ n = 2 ∨ n = 3 ∨ n = 4 ∨ n = 5 ∨ n = 6 ∨ n = 7 ∨ n = 8 ∨ n = 9 ∨ n = 10 ∨ n = 11 ∨ n = 12 ∨ n = 13 ∨ n = 14 ∨ n = 15 ∨ n = 16 ∨ n = 17 ∨ n = 18 ∨ n = 19 ∨ n = 20 ∨ n = 21 ∨ n = 22 := by omega
  all_goals rfl
theorem fndS_stop {w0 : List UInt8} : ∀ (n k : Nat), (∀ j, k ≤ j → j < k + n → opN j ≠ w0) → fndS w0 n k = none
  | 0, k, h => rfl
  | n + 1, k, h => by
    unfold fndS
    rw [if_neg (h k (Nat.le_refl _) (by omega))]
    exact fndS_stop n (k + 1) (fun j h1 h2 => h j (by omega) (by omega))
theorem fndS_hit {w0 : List UInt8} : ∀ (n k m : Nat), k ≤ m → m < k + n → (∀ j, k ≤ j → j < m → opN j ≠ w0) → opN m = w0 → fndS w0 n k = some m
  | 0, k, m, h1, h2, h3, h4 => by omega
  | n + 1, k, m, h1, h2, h3, h4 => by
    unfold fndS
    by_cases hk : k = m
    · subst hk; rw [if_pos h4]
    · rw [if_neg (h3 k (Nat.le_refl _) (by omega))]
      exact fndS_hit n (k + 1) m (by omega) (by omega) (fun j h5 h6 => h3 j (by omega) h6) h4
theorem drop_get {α : Type} {l : List α} {k : Nat} {a : α} (h : l[k]? = some a) : l.drop k = a :: l.drop (k + 1) := by
  obtain ⟨h1, rfl⟩ := List.getElem?_eq_some_iff.1 h
  exact List.drop_eq_getElem_cons h1
theorem cutS_sum (c : UInt8) : ∀ (l : List UInt8) (p : List UInt8), p ∈ cutS c l → p.length ≤ l.length
  | [], p, h => by
    simp only [cutS, List.mem_singleton] at h
    subst h; exact Nat.le_refl _
  | x :: t, p, h => by
    have ih := cutS_sum c t
    unfold cutS at h
    by_cases hx : x = c
    · rw [if_pos hx] at h
      rcases List.mem_cons.1 h with rfl | h1
      · exact Nat.zero_le _
      · exact Nat.le_succ_of_le (ih p h1)
    · rw [if_neg hx] at h
      cases hk : cutS c t with
      | nil => exact absurd hk (cutS_ne c t)
      | cons a b =>
        rw [hk] at h ih
        rcases List.mem_cons.1 h with rfl | h1
        · have := ih a (List.mem_cons_self ..)
          simp only [List.length_cons]; omega
        · exact Nat.le_succ_of_le (ih p (List.mem_cons_of_mem _ h1))
theorem setI_at (i : Ins) {f : UInt8} (h : isL f = true) (n : Int) : inA (setI i f n) = (inA i).setIfInBounds (1 + kOf f) (.int .i64 n) := by
  unfold isL at h
  simp only [Bool.or_eq_true, beq_iff_eq] at h
  rcases h with ((rfl | rfl) | rfl) | rfl <;> rfl
set_option maxRecDepth 100000 in
set_option maxHeartbeats 4000000 in
theorem line_any (s : ByteArray) (hs : s.size ≤ 134217728) (w : World) (hL : LaidW w) : Calls Tryd.prog 28 #[.string s] w (LineE (typeS s.data.toList) w) := by
  have HL := Lib.hid (fun (X : World) (hb : Below w.heap.size w X) => hL.below hb)
  have M0 := Lib.hid ((Has.start (Below.refl w.heap.size w) (Nat.le_refl _)).newcel 39 #[.int .i64 0, .int .i64 0, .int .i64 0, .int .i64 0, .int .i64 0])
  clear hL
  go_enter Tryd.func28, Tryd.ntmps28
  go_upto_region 1 with (fail)
  obtain ⟨W, hW⟩ : ∃ W, (w.alloc (.cells #[.int .i64 0, .int .i64 0, .int .i64 0, .int .i64 0, .int .i64 0] 39)) = W := ⟨_, rfl⟩
  rw [hW] at M0 ⊢
  clear hW
  generalize hB : w.heap.size = r at M0 HL ⊢
  have HB := Lib.hid hB
  clear hB
  obtain ⟨m, hm⟩ := (HL.out W M0.out.bel).ml
  have C1 := Lib.hid (Tryd.strings_Split s ⟨#[32]⟩ m W (by omega) hm (by decide))
  have HPC := Lib.hid (split_cut 32 s)
  have HLN := Lib.hid (splitB_all ⟨#[32]⟩ (by decide) 0 (countB s ⟨#[32]⟩) s rfl)
  clear hm
  obtain ⟨PL, hPL⟩ : ∃ PL, splitB ⟨#[32]⟩ 0 (countB s ⟨#[32]⟩) s = PL := ⟨_, rfl⟩
  rw [hPL] at C1 HPC HLN
  clear hPL
  obtain ⟨N, hN⟩ : ∃ N, countB s ⟨#[32]⟩ + 1 = N := ⟨_, rfl⟩
  rw [hN] at C1 HLN
  have HNQ := Lib.hid hN
  clear hN
  go_wp2_with fail
  refine (C1.out).mono ?_
  rintro e w2 ⟨rfl, hw2⟩
  have M1 := Lib.hid (M0.out.newcel 9 (PL.map Value.string).toArray)
  have hw3 := hw2
  rw [← hw2] at M1
  clear hw2 C1 M0
  generalize W.heap.size = q at M1 ⊢
  clear hw3
  -- the table of shapes
  go_wp2_with fail
  refine (shapes_any w2).mono ?_
  rintro e w3 ⟨rfl, hblk, hb⟩
  have M2 : Hid (Has r w w3 (Star (Cel w2.heap.size 66 shA) (Star (Cel q 9 (PL.map Value.string).toArray) (Star (Cel r 39 #[.int .i64 0, .int .i64 0, .int .i64 0, .int .i64 0, .int .i64 0]) Emp)))) := Lib.hid (M1.out.add hb ⟨hblk, Nat.le_refl _⟩)
  clear hblk hb M1
  generalize w2.heap.size = h at M2 ⊢
  obtain ⟨w0, wr_, hw0⟩ : ∃ w0 t, cutS 32 s.data.toList = w0 :: t := by
    cases hc : cutS 32 s.data.toList with
    | nil => exact absurd hc (cutS_ne _ _)
    | cons a b => exact ⟨a, b, rfl⟩
  have hN1 : PL.length = wr_.length + 1 := by have := congrArg List.length HPC.out; rw [hw0] at this; simpa using this
  obtain ⟨p0, hp0⟩ : ∃ p0, PL[0]? = some p0 := ⟨_, List.getElem?_eq_getElem (by omega)⟩
  have hp0e : p0.data.toList = w0 := by
    have := congrArg (·[0]?) HPC.out
    rw [hw0] at this
    simp only [List.getElem?_map, hp0] at this
    simpa using this
  have HW := Lib.hid hw0
  have HP0 := Lib.hid hp0
  have HPE := Lib.hid hp0e
  have hNN := HLN.out
  clear hw0 hp0 hp0e
  have hNle : N ≤ 134217729 := by
    have h1 := countB_le ⟨#[32]⟩ (by decide) s.size s (Nat.le_refl _)
    rw [← HNQ.out]
    omega
  have hN0 : (0 : Int) < (N : Int) := by omega
  have hN0n : 0 < N := by omega
  go_wp2_with fail
  go_loopw [19] (fun i wr => ∃ k : Nat, k ≤ 23 ∧ i = .int .i64 k ∧ Hid (Has r w wr (Star (Cel h 66 shA) (Star (Cel q 9 (PL.map Value.string).toArray) (Star (Cel r 39 #[.int .i64 0, .int .i64 0, .int .i64 0, .int .i64 0, .int .i64 0]) Emp)))) ∧ Hid (∀ j, j < k → opN j ≠ w0)) (fun i _ => 23 - (intOf i).toNat)
  case atStart => exact ⟨0, Nat.zero_le _, rfl, M2, Lib.hid (fun j hj => absurd hj (Nat.not_lt_zero _))⟩
  case round =>
    clear M2
    obtain ⟨k, hk, rfl, M3, HNO⟩ := hrel
    obtain ⟨w4, hw4⟩ : ∃ w4, w4 = wr := ⟨_, rfl⟩
    rw [← hw4] at M3 ⊢
    clear hw4
    by_cases hkn : k < 23
    · have cel : ∀ j v, (#[.string (nameS k), .string (formS k)] : Array Value).toList[j]? = some v → w4.cell? ⟨h, k * 2 + j, none⟩ = some v := fun j v hv => by
        match j, hv with
        | 0, hv =>
          obtain rfl : _ = v := by simpa using hv
          exact M3.out.cellat h (k * 2) (shA_name k hkn)
        | 1, hv =>
          obtain rfl : _ = v := by simpa using hv
          exact M3.out.cellat h (k * 2 + 1) (shA_form k hkn)
        | j + 2, hv => simp at hv
      have Na := Lib.hid (M3.out.newcel 66 #[.string ⟨#[]⟩, .string ⟨#[]⟩])
      have Nb := Lib.hid (Na.out.rowc w4.heap.size #[.string (nameS k), .string (formS k)])
      go_upto_region 5 with (first | (refine wpList_partW (by kernel_rfl) 66 _ rfl h (k * 2) rfl #[.string (nameS k), .string (formS k)] _ cel Tryd.underlying66 rfl (by kernel_rfl) ?_) | (refine wpList_store_row rfl 66 _ _ rfl w4.heap.size #[.string (nameS k), .string (formS k)] rfl rfl 66 #[.string ⟨#[]⟩, .string ⟨#[]⟩] (Na.out.getc w4.heap.size) (by kernel_rfl) rfl (by kernel_rfl) ?_))
      obtain ⟨W5, hW⟩ : ∃ W5, (w4.alloc (.cells #[.string ⟨#[]⟩, .string ⟨#[]⟩] 66)).setRow w4.heap.size #[.string (nameS k), .string (formS k)] = W5 := ⟨_, rfl⟩
      have N5 := Nb
      rw [hW] at N5 ⊢
      clear hW Na Nb
      generalize w4.heap.size = x at N5 ⊢
      clear cel M3
      have x0 : W5.cell? ⟨x, 0, none⟩ = some (.string (nameS k)) := N5.out.cellat x 0 rfl
      have q0 : W5.cell? ⟨q, 0, none⟩ = some (.string p0) := N5.out.cellat q 0 (by simp [HP0.out])
      by_cases hop : opN k = w0
      case neg =>
        have hne : ((nameS k).toList == p0.toList) = false := beq_eq_false_iff_ne.2 (by rw [toList_data, toList_data, HPE.out]; exact hop)
        have hnb : ((nameS k).toList != p0.toList) = true := by simp [bne, hne]
        have HOP := Lib.hid hop
        clear hop
        go_quiet (fail)
        rename_i nq
        have M6 := Lib.hid ((N5.out.stay (below_drewN (Below.refl _ _) nq)).norm (Star (Cel h 66 shA) (Star (Cel q 9 (PL.map Value.string).toArray) (Star (Cel r 39 #[.int .i64 0, .int .i64 0, .int .i64 0, .int .i64 0, .int .i64 0]) Emp))))
        clear N5 x0 q0 hne hnb
        have HNO2 : Hid (∀ j, j < k + 1 → opN j ≠ w0) := Lib.hid (fun j hj => by
          rcases Nat.lt_or_ge j k with h1 | h1
          · exact HNO.out j h1
          · obtain rfl : j = k := by omega
            exact HOP.out)
        go_wp2_with fail
        first
          | (go_roundw
             case rel => exact ⟨k + 1, by omega, by go_num, M6, HNO2⟩
             case measure => simp [intOf]; omega)
          | (refine ⟨?_, ?_⟩
             · (repeat apply Exists.intro)
               refine ⟨?_, rfl⟩
               exact ⟨k + 1, by omega, by go_num, M6, HNO2⟩
             · simp [intOf]; omega)
      have hne : ((nameS k).toList == p0.toList) = true := beq_iff_eq.2 (by rw [toList_data, toList_data, HPE.out]; exact hop)
      have hnb : ((nameS k).toList != p0.toList) = false := by simp [bne, hne]
      have HFD := Lib.hid (fndS_hit 23 0 k (Nat.zero_le _) (by omega) (fun j _ h2 => HNO.out j h2) hop)
      go_quiet (fail)
      rename_i nq
      have M6 := Lib.hid (N5.out.stay (below_drewN (Below.refl _ _) nq))
      obtain ⟨w6, hw6⟩ : ∃ w6, W5.drewN nq = w6 := ⟨_, rfl⟩
      rw [hw6] at M6 ⊢
      clear hw6 N5 x0 q0 hne hnb HNO
      -- the instruction begun
      have Na := Lib.hid (M6.out.newcel 39 #[.int .i64 0, .int .i64 0, .int .i64 0, .int .i64 0, .int .i64 0])
      have Nb := Lib.hid (Na.out.rowc w6.heap.size (inA ⟨k, 0, 0, 0, 0⟩))
      go_upto_region 7 with (first | (refine wpList_store_row rfl 39 _ _ rfl w6.heap.size (inA ⟨k, 0, 0, 0, 0⟩) rfl rfl 39 #[.int .i64 0, .int .i64 0, .int .i64 0, .int .i64 0, .int .i64 0] (Na.out.getc w6.heap.size) (by kernel_rfl) rfl (by kernel_rfl) ?_))
      obtain ⟨W7, hW⟩ : ∃ W7, (w6.alloc (.cells #[.int .i64 0, .int .i64 0, .int .i64 0, .int .i64 0, .int .i64 0] 39)).setRow w6.heap.size (inA ⟨k, 0, 0, 0, 0⟩) = W7 := ⟨_, rfl⟩
      have N7 := Nb
      rw [hW] at N7 ⊢
      clear hW Na Nb M6
      generalize w6.heap.size = ib at N7 ⊢
      have x1 : W7.cell? ⟨x, 1, none⟩ = some (.string (formS k)) := N7.out.cellat x 1 rfl
      have hF3 : (formS k).size ≤ 3 := by have := opF_len ⟨k, hkn⟩; simpa [opF] using this
      have hFl : (opF k).length = (formS k).size := by simp [opF]
      by_cases hlen : N = (formS k).size + 1
      case neg =>
        have hnT : typeS s.data.toList = none := by
          unfold typeS
          rw [HW.out]
          simp only [List.headD_cons]
          rw [HFD.out]
          simp only
          rw [if_neg (by simp only [List.length_cons]; omega)]
        have HNT := Lib.hid hnT
        clear hnT
        have hneI : ¬ ((N : Int) = 1 + ((formS k).size : Int)) := by omega
        have hneb : ((N : Int) != 1 + ((formS k).size : Int)) = true := bne_iff_ne.2 hneI
        have M8 := Lib.hid (N7.out.rowc r (inA ⟨k, 0, 0, 0, 0⟩))
        have MZ := Lib.hid M8.out.bel
        go_wp2_with (first | (refine wpList_rowW (by kernel_rfl) 39 _ rfl ib rfl (inA ⟨k, 0, 0, 0, 0⟩) _ (N7.out.getc ib) Tryd.underlying39 rfl (by kernel_rfl) ?_) | (refine wpList_store_row rfl 39 _ _ rfl r (inA ⟨k, 0, 0, 0, 0⟩) rfl rfl 39 #[.int .i64 0, .int .i64 0, .int .i64 0, .int .i64 0, .int .i64 0] (N7.out.getc r) (by kernel_rfl) rfl (by kernel_rfl) ?_))
        refine bodyPost_ret (results_cellT_row (p := 2) (q := 3) (ty := 39) rfl _ _ r 39 (inA ⟨k, 0, 0, 0, 0⟩) _ (by kernel_rfl) (M8.out.getc r) Tryd.underlying39 rfl (by kernel_rfl) (.bool false) (by kernel_rfl)) rfl ?_
        exact ⟨⟨⟨k, 0, 0, 0, 0⟩, false, rfl, by rw [HNT.out]⟩, by rw [HB.out]; exact MZ.out⟩
      have hlenI : (N : Int) = 1 + ((formS k).size : Int) := by omega
      have hlenb : ((N : Int) != 1 + ((formS k).size : Int)) = false := by rw [hlenI]; simp
      have HT : Hid (typeS s.data.toList = goS ((opF k).drop 0) (wr_.drop 0) ⟨k, 0, 0, 0, 0⟩) := Lib.hid (by
        unfold typeS
        rw [HW.out]
        simp only [List.headD_cons]
        rw [HFD.out]
        simp only
        rw [if_pos (by simp only [List.length_cons]; omega)]
        rfl)
      have HLEN := Lib.hid hlen
      clear HFD hlen hlenI
      go_wp2_with fail
      go_loopw [43] (fun t wr => ∃ (k2 : Nat) (i : Ins), k2 ≤ (formS k).size ∧ t = .int .i64 k2 ∧ Hid (Has r w wr (Star (Cel ib 39 (inA i)) (Star (Cel x 66 #[.string (nameS k), .string (formS k)]) (Star (Cel h 66 shA) (Star (Cel q 9 (PL.map Value.string).toArray) (Star (Cel r 39 #[.int .i64 0, .int .i64 0, .int .i64 0, .int .i64 0, .int .i64 0]) Emp)))))) ∧ Hid (typeS s.data.toList = goS ((opF k).drop k2) (wr_.drop k2) i)) (fun t _ => (formS k).size - (RowKit.intOf t).toNat)
      case atStart => exact ⟨0, _, Nat.zero_le _, rfl, N7, HT⟩
      case round =>
        clear N7 HT x1
        obtain ⟨k2, i, hk2, rfl, N8, HT⟩ := hrel
        obtain ⟨w8, hw8⟩ : ∃ w8, w8 = wr := ⟨_, rfl⟩
        rw [← hw8] at N8 ⊢
        clear hw8
        have x1 : w8.cell? ⟨x, 1, none⟩ = some (.string (formS k)) := N8.out.cellat x 1 rfl
        by_cases hk2n : k2 < (formS k).size
        · have hle := HLEN.out
          obtain ⟨pw, hpw⟩ : ∃ p, PL[1 + k2]? = some p := ⟨_, List.getElem?_eq_getElem (by omega)⟩
          have qk : w8.cell? ⟨q, 1 + k2, none⟩ = some (.string pw) := N8.out.cellat q (1 + k2) (by simp [hpw])
          have hi1 : (1 : Int) + (k2 : Int) < (N : Int) := by omega
          have hi2 : 1 + k2 < N := by omega
          have HPW := Lib.hid hpw
          clear hpw hle
          go_upto_region 12 with (fail)
          go_quiet (fail)
          have M9 := Lib.hid ((N8.out.stay (below_drewN (Below.refl _ _) nq)).norm (Star (Cel ib 39 (inA i)) (Star (Cel x 66 #[.string (nameS k), .string (formS k)]) (Star (Cel h 66 shA) (Star (Cel q 9 (PL.map Value.string).toArray) (Star (Cel r 39 #[.int .i64 0, .int .i64 0, .int .i64 0, .int .i64 0, .int .i64 0]) Emp))))))
          obtain ⟨w9, hw9⟩ : ∃ w9, w8.drewN nq = w9 := ⟨_, rfl⟩
          rw [hw9] at M9 ⊢
          clear hw9 N8 qk x1
          have hf : (opF k)[k2]? = some (formS k)[k2] := by
            unfold opF
            rw [Array.getElem?_toList]
            exact Array.getElem?_eq_getElem _
          generalize (formS k)[k2] = f at hf ⊢
          have hfl : isL f = true := List.all_eq_true.1 (opF_isL ⟨k, hkn⟩) f (List.mem_of_getElem? hf)
          have HFL := Lib.hid hfl
          have HFM := Lib.hid (kOf_ltr hfl)
          have hxw : wr_[k2]? = some pw.data.toList := by
            have e1 := congrArg (fun l : List (List UInt8) => l[1 + k2]?) HPC.out
            simp only [HW.out, List.getElem?_map, HPW.out, Option.map_some] at e1
            rw [Nat.add_comm 1 k2, List.getElem?_cons_succ] at e1
            exact e1.symm
          have hpz : pw.size ≤ 281474976710656 := by
            have e2 := cutS_sum 32 s.data.toList _ (by rw [HW.out]; exact List.mem_cons_of_mem _ (List.mem_of_getElem? hxw))
            have e3 : pw.data.toList.length = pw.size := rfl
            have e4 : s.data.toList.length = s.size := rfl
            omega
          obtain ⟨xw, hxe⟩ : ∃ xw, pw.data.toList = xw := ⟨_, rfl⟩
          rw [hxe] at hxw
          have HXE := Lib.hid hxe
          have HST : typeS s.data.toList = goS (f :: (opF k).drop (k2 + 1)) (xw :: wr_.drop (k2 + 1)) i := by rw [HT.out, drop_get hf, drop_get hxw]
          have HG0 : Hid (lwS f xw = none → typeS s.data.toList = none) := Lib.hid (fun e => by rw [HST]; unfold goS; rw [e])
          have HG1 : Hid (∀ n, lwS f xw = some n → typeS s.data.toList = goS ((opF k).drop (k2 + 1)) (wr_.drop (k2 + 1)) (setI i f n)) := Lib.hid (fun n e => by rw [HST]; conv => lhs; unfold goS; rw [e])
          clear HST hxe hxw hf hfl
          by_cases hf110 : f = 110
          · have hfI : ((f.toNat : Int) != 110) = false := by subst hf110; rfl
            have HXL : Hid (lwS f xw = numR pw.data.toList (lowS (kOf f)) (highS (kOf f))) := Lib.hid (by rw [HXE.out]; subst hf110; rfl)
            have hX := hpz
            clear hpz hf110
            have C1 := Lib.hid (most_any (kOf f) HFM.out.1 w9)
            have C3 := Lib.hid (fun wr => field_any ib (kOf f) HFM.out.1 wr)
            rw [HFM.out.2] at C1 C3
            have C2 := Lib.hid (number_any pw hX (lowS (kOf f)) (highS (kOf f)) w9 (HL.out w9 M9.out.bel))
            clear hX
            go_wp2_with fail
            refine (C1.out).mono ?_
            rintro e wA ⟨rfl, rfl⟩
            clear C1
            go_wp2_with fail
            refine (C2.out).mono ?_
            rintro e wB ⟨⟨v, ok, rfl, hv⟩, hb⟩
            clear C2
            have M10 := Lib.hid ((M9.out.stay hb).norm (Star (Cel ib 39 (inA i)) (Star (Cel x 66 #[.string (nameS k), .string (formS k)]) (Star (Cel h 66 shA) (Star (Cel q 9 (PL.map Value.string).toArray) (Star (Cel r 39 #[.int .i64 0, .int .i64 0, .int .i64 0, .int .i64 0, .int .i64 0]) Emp))))))
            clear hb M9
            rw [← HXL.out] at hv
            cases hl : lwS f xw with
            | none =>
              rw [hl] at hv
              obtain rfl : ok = false := hv
              have HNT := Lib.hid (HG0.out hl)
              clear hl HXL HG0 HG1 HT C3
              have M8 := Lib.hid (M10.out.rowc r (inA i))
              have MZ := Lib.hid M8.out.bel
              go_wp2_with (first | (refine wpList_rowW (by kernel_rfl) 39 _ rfl ib rfl (inA i) _ (M10.out.getc ib) Tryd.underlying39 rfl (by kernel_rfl) ?_) | (refine wpList_store_row rfl 39 _ _ rfl r (inA i) rfl rfl 39 #[.int .i64 0, .int .i64 0, .int .i64 0, .int .i64 0, .int .i64 0] (M10.out.getc r) (by kernel_rfl) rfl (by kernel_rfl) ?_))
              refine bodyPost_ret (results_cellT_row (p := 2) (q := 3) (ty := 39) rfl _ _ r 39 (inA i) _ (by kernel_rfl) (M8.out.getc r) Tryd.underlying39 rfl (by kernel_rfl) (.bool false) (by kernel_rfl)) rfl ?_
              exact ⟨⟨i, false, rfl, by rw [HNT.out]⟩, by rw [HB.out]; exact MZ.out⟩
            | some n =>
              rw [hl] at hv
              obtain ⟨rfl, rfl⟩ : ok = true ∧ v = n := hv
              have HT2 := Lib.hid (HG1.out v hl)
              clear hl HXL HG0 HG1 HT
              obtain ⟨ov, hov⟩ : ∃ o, (inA i)[1 + kOf f]? = some o := ⟨_, Array.getElem?_eq_getElem (by have := HFM.out.1; simp only [inA, List.size_toArray, List.length_cons, List.length_nil]; omega)⟩
              go_wp2_with fail
              refine (C3.out wB).mono ?_
              rintro e wC ⟨rfl, rfl⟩
              clear C3
              have lv : wB.frozen? ⟨ib, 1 + kOf f, none⟩ = false := M10.out.liveat ib (1 + kOf f)
              have ol : wB.cell? ⟨ib, 1 + kOf f, none⟩ = some ov := M10.out.cellat ib (1 + kOf f) hov
              clear hov
              have M11 := Lib.hid ((M10.out.cellc ib (1 + kOf f) (.int .i64 v) (inA (setI i f v)) (setI_at i HFL.out v)).norm (Star (Cel ib 39 (inA (setI i f v))) (Star (Cel x 66 #[.string (nameS k), .string (formS k)]) (Star (Cel h 66 shA) (Star (Cel q 9 (PL.map Value.string).toArray) (Star (Cel r 39 #[.int .i64 0, .int .i64 0, .int .i64 0, .int .i64 0, .int .i64 0]) Emp))))))
              clear M10
              go_wp2_with fail
              first
                | (go_roundw
                   case rel => exact ⟨k2 + 1, setI i f v, by omega, by go_num, M11, HT2⟩
                   case measure => simp [intOf]; omega)
                | (refine ⟨?_, ?_⟩
                   · (repeat apply Exists.intro)
                     refine ⟨?_, rfl⟩
                     exact ⟨k2 + 1, setI i f v, by omega, by go_num, M11, HT2⟩
                   · simp [intOf]; omega)
          · have hfN : ¬ ((f.toNat : Int) = 110) := fun e => hf110 (UInt8.toNat_inj.1 (by rw [show (110 : UInt8).toNat = 110 from rfl]; omega))
            have hfI : ((f.toNat : Int) != 110) = true := bne_iff_ne.2 hfN
            have HF110 := Lib.hid hf110
            clear hf110
            cases hxc : xw with
            | nil =>
              have hpe : pw = ⟨#[]⟩ := by
                have e1 : pw.data.toList = [] := by rw [HXE.out, hxc]
                have e2 : pw.data = #[] := by simpa using e1
                cases pw; simp only at e2; rw [e2]
              have HNT := Lib.hid (HG0.out (by rw [hxc]; unfold lwS; rw [if_neg HF110.out]))
              subst hpe
              clear hxc HG0 HG1 HT
              have M8 := Lib.hid (M9.out.rowc r (inA i))
              have MZ := Lib.hid M8.out.bel
              go_wp2_with (first | (refine wpList_rowW (by kernel_rfl) 39 _ rfl ib rfl (inA i) _ (M9.out.getc ib) Tryd.underlying39 rfl (by kernel_rfl) ?_) | (refine wpList_store_row rfl 39 _ _ rfl r (inA i) rfl rfl 39 #[.int .i64 0, .int .i64 0, .int .i64 0, .int .i64 0, .int .i64 0] (M9.out.getc r) (by kernel_rfl) rfl (by kernel_rfl) ?_))
              refine bodyPost_ret (results_cellT_row (p := 2) (q := 3) (ty := 39) rfl _ _ r 39 (inA i) _ (by kernel_rfl) (M8.out.getc r) Tryd.underlying39 rfl (by kernel_rfl) (.bool false) (by kernel_rfl)) rfl ?_
              exact ⟨⟨i, false, rfl, by rw [HNT.out]⟩, by rw [HB.out]; exact MZ.out⟩
            | cons c rr =>
              have hpl : pw.data.toList = c :: rr := by rw [HXE.out, hxc]
              have hp0 : 0 < pw.size := by have : pw.data.toList.length = pw.size := rfl; rw [hpl] at this; simp only [List.length_cons] at this; omega
              have hpg : pw[0] = c := by
                have : pw.data.toList[0]? = some c := by rw [hpl]; rfl
                rw [Array.getElem?_toList, Array.getElem?_eq_getElem hp0] at this
                exact Option.some.inj this
              have hpn : ¬ pw = ⟨#[]⟩ := fun e => by rw [e] at hp0; exact absurd hp0 (by decide)
              have hpb : ¬ pw.toList = [] := by rw [toList_data, hpl]; simp
              have hpi : pw.toList.isEmpty = false := by rw [toList_data, hpl]; rfl
              have hpzI : (0 : Int) < (pw.size : Int) := by omega
              have hpzI1 : (1 : Int) ≤ (pw.size : Int) := by omega
              by_cases hc114 : c = 114
              · have hcb : (((pw[0]'hp0).toNat : Int) != 114) = false := by rw [hpg, hc114]; rfl
                have HPL : Hid (pw.data.toList = 114 :: rr) := Lib.hid (by rw [hpl, hc114])
                have HXC : Hid (xw = 114 :: rr) := Lib.hid (by rw [hxc, hc114])
                clear hpl hpg hc114 hxc
                have hex : (pw.extract 1 pw.size).data.toList = rr := by
                  have e0 : pw.data.size = rr.length + 1 := by rw [← Array.length_toList, HPL.out]; rfl
                  have e1 : pw.size = rr.length + 1 := e0
                  rw [ByteArray.data_extract, Array.toList_extract, HPL.out, e1]
                  simp [List.extract]
                have hX : (pw.extract 1 pw.size).size ≤ 281474976710656 := by
                  have e1 : (pw.extract 1 pw.size).size = pw.size - 1 := by simp
                  omega
                have HXL : Hid (lwS f xw = numR (pw.extract 1 pw.size).data.toList (lowS (kOf f)) (highS (kOf f))) := Lib.hid (by rw [HXC.out, hex]; unfold lwS; rw [if_neg HF110.out]; simp only [if_pos])
                clear hex HPL
                have C1 := Lib.hid (most_any (kOf f) HFM.out.1 w9)
                have C3 := Lib.hid (fun wr => field_any ib (kOf f) HFM.out.1 wr)
                rw [HFM.out.2] at C1 C3
                have C2 := Lib.hid (number_any (pw.extract 1 pw.size) hX (lowS (kOf f)) (highS (kOf f)) w9 (HL.out w9 M9.out.bel))
                clear hX
                go_wp2_with fail
                refine (C1.out).mono ?_
                rintro e wA ⟨rfl, rfl⟩
                clear C1
                go_wp2_with fail
                refine (C2.out).mono ?_
                rintro e wB ⟨⟨v, ok, rfl, hv⟩, hb⟩
                clear C2
                have M10 := Lib.hid ((M9.out.stay hb).norm (Star (Cel ib 39 (inA i)) (Star (Cel x 66 #[.string (nameS k), .string (formS k)]) (Star (Cel h 66 shA) (Star (Cel q 9 (PL.map Value.string).toArray) (Star (Cel r 39 #[.int .i64 0, .int .i64 0, .int .i64 0, .int .i64 0, .int .i64 0]) Emp))))))
                clear hb M9
                rw [← HXL.out] at hv
                cases hl : lwS f xw with
                | none =>
                  rw [hl] at hv
                  obtain rfl : ok = false := hv
                  have HNT := Lib.hid (HG0.out hl)
                  clear hl HXL HG0 HG1 HT C3
                  have M8 := Lib.hid (M10.out.rowc r (inA i))
                  have MZ := Lib.hid M8.out.bel
                  go_wp2_with (first | (refine wpList_rowW (by kernel_rfl) 39 _ rfl ib rfl (inA i) _ (M10.out.getc ib) Tryd.underlying39 rfl (by kernel_rfl) ?_) | (refine wpList_store_row rfl 39 _ _ rfl r (inA i) rfl rfl 39 #[.int .i64 0, .int .i64 0, .int .i64 0, .int .i64 0, .int .i64 0] (M10.out.getc r) (by kernel_rfl) rfl (by kernel_rfl) ?_))
                  refine bodyPost_ret (results_cellT_row (p := 2) (q := 3) (ty := 39) rfl _ _ r 39 (inA i) _ (by kernel_rfl) (M8.out.getc r) Tryd.underlying39 rfl (by kernel_rfl) (.bool false) (by kernel_rfl)) rfl ?_
                  exact ⟨⟨i, false, rfl, by rw [HNT.out]⟩, by rw [HB.out]; exact MZ.out⟩
                | some n =>
                  rw [hl] at hv
                  obtain ⟨rfl, rfl⟩ : ok = true ∧ v = n := hv
                  have HT2 := Lib.hid (HG1.out v hl)
                  clear hl HXL HG0 HG1 HT
                  obtain ⟨ov, hov⟩ : ∃ o, (inA i)[1 + kOf f]? = some o := ⟨_, Array.getElem?_eq_getElem (by have := HFM.out.1; simp only [inA, List.size_toArray, List.length_cons, List.length_nil]; omega)⟩
                  go_wp2_with fail
                  refine (C3.out wB).mono ?_
                  rintro e wC ⟨rfl, rfl⟩
                  clear C3
                  have lv : wB.frozen? ⟨ib, 1 + kOf f, none⟩ = false := M10.out.liveat ib (1 + kOf f)
                  have ol : wB.cell? ⟨ib, 1 + kOf f, none⟩ = some ov := M10.out.cellat ib (1 + kOf f) hov
                  clear hov
                  have M11 := Lib.hid ((M10.out.cellc ib (1 + kOf f) (.int .i64 v) (inA (setI i f v)) (setI_at i HFL.out v)).norm (Star (Cel ib 39 (inA (setI i f v))) (Star (Cel x 66 #[.string (nameS k), .string (formS k)]) (Star (Cel h 66 shA) (Star (Cel q 9 (PL.map Value.string).toArray) (Star (Cel r 39 #[.int .i64 0, .int .i64 0, .int .i64 0, .int .i64 0, .int .i64 0]) Emp))))))
                  clear M10
                  go_wp2_with fail
                  first
                    | (go_roundw
                       case rel => exact ⟨k2 + 1, setI i f v, by omega, by go_num, M11, HT2⟩
                       case measure => simp [intOf]; omega)
                    | (refine ⟨?_, ?_⟩
                       · (repeat apply Exists.intro)
                         refine ⟨?_, rfl⟩
                         exact ⟨k2 + 1, setI i f v, by omega, by go_num, M11, HT2⟩
                       · simp [intOf]; omega)
              · have hcb : (((pw[0]'hp0).toNat : Int) != 114) = true := bne_iff_ne.2 (fun e => hc114 (UInt8.toNat_inj.1 (by rw [show (114 : UInt8).toNat = 114 from rfl]; rw [hpg] at e; omega)))
                have HC := Lib.hid hc114
                have HXC := Lib.hid hxc
                clear hc114 hpl hpg hxc
                have HNT := Lib.hid (HG0.out (by rw [HXC.out]; unfold lwS; rw [if_neg HF110.out]; simp only [if_neg HC.out]))
                clear HG0 HG1 HT
                have M8 := Lib.hid (M9.out.rowc r (inA i))
                have MZ := Lib.hid M8.out.bel
                go_wp2_with (first | (refine wpList_rowW (by kernel_rfl) 39 _ rfl ib rfl (inA i) _ (M9.out.getc ib) Tryd.underlying39 rfl (by kernel_rfl) ?_) | (refine wpList_store_row rfl 39 _ _ rfl r (inA i) rfl rfl 39 #[.int .i64 0, .int .i64 0, .int .i64 0, .int .i64 0, .int .i64 0] (M9.out.getc r) (by kernel_rfl) rfl (by kernel_rfl) ?_))
                refine bodyPost_ret (results_cellT_row (p := 2) (q := 3) (ty := 39) rfl _ _ r 39 (inA i) _ (by kernel_rfl) (M8.out.getc r) Tryd.underlying39 rfl (by kernel_rfl) (.bool false) (by kernel_rfl)) rfl ?_
                exact ⟨⟨i, false, rfl, by rw [HNT.out]⟩, by rw [HB.out]; exact MZ.out⟩
        · have hk2e : k2 = (formS k).size := by omega
          have HNT : Hid (typeS s.data.toList = some i) := Lib.hid (by rw [HT.out, hk2e, ← hFl, List.drop_length]; rfl)
          clear hk2e HT x1
          have M8 := Lib.hid (N8.out.rowc r (inA i))
          have MZ := Lib.hid M8.out.bel
          go_wp2_with (first | (refine wpList_rowW (by kernel_rfl) 39 _ rfl ib rfl (inA i) _ (N8.out.getc ib) Tryd.underlying39 rfl (by kernel_rfl) ?_) | (refine wpList_store_row rfl 39 _ _ rfl r (inA i) rfl rfl 39 #[.int .i64 0, .int .i64 0, .int .i64 0, .int .i64 0, .int .i64 0] (N8.out.getc r) (by kernel_rfl) rfl (by kernel_rfl) ?_))
          refine bodyPost_ret (results_cellT_row (p := 2) (q := 3) (ty := 39) rfl _ _ r 39 (inA i) _ (by kernel_rfl) (M8.out.getc r) Tryd.underlying39 rfl (by kernel_rfl) (.bool true) (by kernel_rfl)) rfl ?_
          exact ⟨⟨i, true, rfl, by rw [HNT.out]; exact ⟨rfl, rfl⟩⟩, by rw [HB.out]; exact MZ.out⟩
    · have hk23 : k = 23 := by omega
      have HFD := Lib.hid (fndS_stop 23 0 (fun j _ h2 => HNO.out j (by omega)))
      have hnT : typeS s.data.toList = none := by
        unfold typeS
        rw [HW.out]
        simp only [List.headD_cons]
        rw [HFD.out]
      have HNT := Lib.hid hnT
      clear hnT HFD HNO
      subst hk23
      have M8 := Lib.hid (M3.out.rowc r (inA ⟨0, 0, 0, 0, 0⟩))
      have MZ := Lib.hid M8.out.bel
      go_wp2_with (first | (refine wpList_store_row rfl 39 _ _ rfl r (inA ⟨0, 0, 0, 0, 0⟩) rfl rfl 39 #[.int .i64 0, .int .i64 0, .int .i64 0, .int .i64 0, .int .i64 0] (M3.out.getc r) (by kernel_rfl) rfl (by kernel_rfl) ?_))
      refine bodyPost_ret (results_cellT_row (p := 2) (q := 3) (ty := 39) rfl _ _ r 39 (inA ⟨0, 0, 0, 0, 0⟩) _ (by kernel_rfl) (M8.out.getc r) Tryd.underlying39 rfl (by kernel_rfl) (.bool false) (by kernel_rfl)) rfl ?_
      exact ⟨⟨⟨0, 0, 0, 0, 0⟩, false, rfl, by rw [HNT.out]⟩, by rw [HB.out]; exact MZ.out⟩
end Go.Proofs.YtmbacegbcccdjaaDoor
