/-
  Layer 4: the document's Typed: what it computes.
  Conditions: none. (My own text.)
-/
import Derived.Test.YtmbacegbcccdjaaDoorKnu
import Derived.Test.YtmbacegbcccdjaaDoorRgd
import Derived.Test.YtmbacegbcccdjaaDoorCdc
import Derived.Test.YtmbacegbcccdjaaDoorCdd
namespace Go.Proofs.YtmbacegbcccdjaaDoor
open Go.RowKit Spm
set_option linter.unusedVariables false
set_option linter.unusedSimpArgs false

open Go.Lib hiding intOf
attribute [local irreducible] wpList
theorem run_strIdx {P : Program} {w : World} {o : Oper} {a : Go.Act} {s : ByteArray} {k : Nat} {f : UInt8} {t : TypeId} {p q : Operand} (ho : o.op = .index t p q) (hx : a.eval p = .string s) (hy : a.eval q = .int .i64 k) (hu : P.underlying t = some .string) (hk : k < s.size) (hf : s[k]'hk = f) : (execOp a.eval o).run P w = .ok (.value (.int .u8 f.toNat)) w := by
  have h1 : (0 : Int) ≤ (k : Int) ∧ (k : Int) < (s.size : Int) := by omega
  have h2 : (Instr.index t (.string s) (.int .i64 k)).run P w = .ok (.int .u8 f.toNat) w := by
    rw [run_index_string w t s .i64 k hu, dif_pos h1]
    simp [hf]
  unfold execOp
  rw [ho]
  simp only [hx, hy]
  simp [Sem.run_bind, h2]
set_option maxRecDepth 100000 in
set_option maxHeartbeats 4000000 in
theorem rtyped_any (s : ByteArray) (hs : s.size ≤ 134217728) (w : World) (hL : LaidW w) : Calls Tryd.prog 30 #[.string s] w (LineE (typeS s.data.toList) w) := by
  have HL := Lib.hid (fun (X : World) (hb : Below w.heap.size w X) => hL.below hb)
  have M0 := Lib.hid ((Has.start (Below.refl w.heap.size w) (Nat.le_refl _)).newcel 39 #[.int .i64 0, .int .i64 0, .int .i64 0, .int .i64 0, .int .i64 0])
  clear hL
  go_enter Tryd.func30, Tryd.ntmps30
  go_upto_region 1 with (fail)
  obtain ⟨W, hW⟩ : ∃ W, (w.alloc (.cells #[.int .i64 0, .int .i64 0, .int .i64 0, .int .i64 0, .int .i64 0] 39)) = W := ⟨_, rfl⟩
  rw [hW] at M0 ⊢
  clear hW
  generalize hB : w.heap.size = r at M0 HL ⊢
  have HB := Lib.hid hB
  clear hB
  have C1 : Hid (Calls Tryd.prog 29 #[.string s, .int .u8 32] W (CutE 32 s W)) := Lib.hid (rcut_any s hs 32 W)
  go_wp2_with fail
  refine (C1.out).mono ?_
  rintro e w2 ⟨q, cap, cur, PL, rfl, hblk, hq, hcur, hmap, hlc, hcm, hb⟩
  have M2 : Hid (Has r w w2 (Star (Cel q 9 cur) (Star (Cel r 39 #[.int .i64 0, .int .i64 0, .int .i64 0, .int .i64 0, .int .i64 0]) Emp))) := Lib.hid (M0.out.add hb ⟨hblk, hq⟩)
  have HCUR := Lib.hid hcur
  have HPC := Lib.hid hmap
  clear hblk hq hcur hmap hb C1 M0
  unfold maxLen at hcm
  obtain ⟨N, hN⟩ : ∃ N, PL.length = N := ⟨_, rfl⟩
  rw [hN] at hlc ⊢
  obtain ⟨w0, wr_, hw0⟩ : ∃ w0 t, cutS 32 s.data.toList = w0 :: t := by
    cases hc : cutS 32 s.data.toList with
    | nil => exact absurd hc (cutS_ne _ _)
    | cons a b => exact ⟨a, b, rfl⟩
  have hN1 : N = wr_.length + 1 := by have := congrArg List.length HPC.out; rw [hw0, List.length_map] at this; simpa [hN] using this
  obtain ⟨p0, hp0⟩ : ∃ p0, PL[0]? = some p0 := ⟨_, List.getElem?_eq_getElem (by omega)⟩
  have hp0e : p0.data.toList = w0 := by
    have := congrArg (·[0]?) HPC.out
    rw [hw0] at this
    simp only [List.getElem?_map, hp0] at this
    simpa using this
  have HW := Lib.hid hw0
  have HP0 := Lib.hid (HCUR.out 0 p0 hp0)
  have HPE := Lib.hid hp0e
  have HNN := Lib.hid hN
  clear hw0 hp0 hp0e hN
  have hN0 : (0 : Int) < (N : Int) := by omega
  have hN0n : 0 < N := by omega
  have hNz : N ≤ 134217729 := by
    have e1 := congrArg List.length HPC.out
    rw [List.length_map, cutS_len, HNN.out] at e1
    have e2 : s.data.toList.count 32 ≤ s.data.toList.length := List.count_le_length
    have e3 : s.data.toList.length = s.size := rfl
    omega
  go_wp2_with fail
  go_loopw [5] (fun t wr => ∃ k : Nat, k ≤ 23 ∧ t = .int .i64 k ∧ Hid (Has r w wr (Star (Cel q 9 cur) (Star (Cel r 39 #[.int .i64 0, .int .i64 0, .int .i64 0, .int .i64 0, .int .i64 0]) Emp))) ∧ Hid (∀ j, j < k → opN j = w0 → N ≠ (opF j).length + 1)) (fun t _ => 23 - (intOf t).toNat)
  case atStart => exact ⟨0, Nat.zero_le _, rfl, M2, Lib.hid (fun j hj => absurd hj (Nat.not_lt_zero _))⟩
  case round =>
    clear M2
    obtain ⟨k, hk, rfl, M3, HNO⟩ := hrel
    obtain ⟨w4, hw4⟩ : ∃ w4, w4 = wr := ⟨_, rfl⟩
    rw [← hw4] at M3 ⊢
    clear hw4
    by_cases hkn : k < 23
    · have C2 := Lib.hid (name_any (k : Int) w4)
      have hk22 : (k : Int) ≤ 22 := by omega
      go_wp2_with fail
      refine (C2.out).mono ?_
      rintro e w5 ⟨rfl, rfl⟩
      clear C2
      have q0 : w4.cell? ⟨q, 0, none⟩ = some (.string p0) := M3.out.cellat q 0 HP0.out
      have hFl : (opF k).length = (formS k).size := by simp [opF]
      have hF3 : (formS k).size ≤ 3 := by have := opF_len ⟨k, hkn⟩; simpa [opF] using this
      by_cases hop : opN k = w0
      case neg =>
        have hne : ((nameS k).toList == p0.toList) = false := beq_eq_false_iff_ne.2 (by rw [toList_data, toList_data, HPE.out]; exact hop)
        have hnb : ((nameS k).toList != p0.toList) = true := by simp [bne, hne]
        have HNO2 : Hid (∀ j, j < k + 1 → opN j = w0 → N ≠ (opF j).length + 1) := Lib.hid (fun j hj he => by
          rcases Nat.lt_or_ge j k with h1 | h1
          · exact HNO.out j h1 he
          · obtain rfl : j = k := by omega
            exact absurd he hop)
        clear hop
        go_wp2_with fail
        first
          | (go_roundw
             case rel => exact ⟨k + 1, by omega, by go_num, M3, HNO2⟩
             case measure => simp [intOf]; omega)
          | (refine ⟨?_, ?_⟩
             · (repeat apply Exists.intro)
               refine ⟨?_, rfl⟩
               exact ⟨k + 1, by omega, by go_num, M3, HNO2⟩
             · simp [intOf]; omega)
      have hne : ((nameS k).toList == p0.toList) = true := beq_iff_eq.2 (by rw [toList_data, toList_data, HPE.out]; exact hop)
      have hnb : ((nameS k).toList != p0.toList) = false := by simp [bne, hne]
      by_cases hlen : N = (formS k).size + 1
      case neg =>
        have hneI : ¬ ((N : Int) = ((formS k).size : Int) + 1) := by omega
        have hneb : ((N : Int) != ((formS k).size : Int) + 1) = true := bne_iff_ne.2 hneI
        have HNO2 : Hid (∀ j, j < k + 1 → opN j = w0 → N ≠ (opF j).length + 1) := Lib.hid (fun j hj he => by
          rcases Nat.lt_or_ge j k with h1 | h1
          · exact HNO.out j h1 he
          · obtain rfl : j = k := by omega
            rw [hFl]; exact hlen)
        clear hop
        go_wp2_with fail
        first
          | (go_roundw
             case rel => exact ⟨k + 1, by omega, by go_num, M3, HNO2⟩
             case measure => simp [intOf]; omega)
          | (refine ⟨?_, ?_⟩
             · (repeat apply Exists.intro)
               refine ⟨?_, rfl⟩
               exact ⟨k + 1, by omega, by go_num, M3, HNO2⟩
             · simp [intOf]; omega)
      have hlenI : (N : Int) = ((formS k).size : Int) + 1 := by omega
      have hlenb : ((N : Int) != ((formS k).size : Int) + 1) = false := by rw [hlenI]; simp
      have HFD : Hid (fndS w0 23 0 = some k) := Lib.hid (by rw [← hop]; exact fnd_name ⟨k, hkn⟩)
      have HT : Hid (typeR s.data.toList = goR ((opF k).drop 0) (wr_.drop 0) ⟨k, 0, 0, 0, 0⟩) := Lib.hid (by
        unfold typeR
        rw [HW.out]
        simp only [List.headD_cons]
        rw [HFD.out]
        simp only
        rw [if_pos (by simp only [List.length_cons]; omega)]
        rfl)
      have HLEN := Lib.hid hlen
      clear HFD hop HNO
      -- the instruction begun
      go_upto_region 7 with fail
      have Na := Lib.hid (M3.out.newcel 39 #[.int .i64 0, .int .i64 0, .int .i64 0, .int .i64 0, .int .i64 0])
      have Nb := Lib.hid (Na.out.rowc w4.heap.size (inA ⟨k, 0, 0, 0, 0⟩))
      have HIR : Hid (w4.heap.size ≠ r) := Lib.hid (by have := (M3.out.getc r).lt; omega)
      go_upto_region 8 with (first | (refine wpList_store_row rfl 39 _ _ rfl w4.heap.size (inA ⟨k, 0, 0, 0, 0⟩) rfl rfl 39 #[.int .i64 0, .int .i64 0, .int .i64 0, .int .i64 0, .int .i64 0] (Na.out.getc w4.heap.size) (by kernel_rfl) rfl (by kernel_rfl) ?_))
      obtain ⟨W7, hW⟩ : ∃ W7, (w4.alloc (.cells #[.int .i64 0, .int .i64 0, .int .i64 0, .int .i64 0, .int .i64 0] 39)).setRow w4.heap.size (inA ⟨k, 0, 0, 0, 0⟩) = W7 := ⟨_, rfl⟩
      have N7 := Nb
      rw [hW] at N7 ⊢
      clear hW Na Nb M3 q0 hne hnb hlenI hlenb hlen
      generalize w4.heap.size = ib at N7 HIR ⊢
      go_wp2_with fail
      go_loopw [10] (fun t wr => ∃ (k2 : Nat) (i : Ins), k2 ≤ (formS k).size ∧ t = .int .i64 k2 ∧ Hid (Has r w wr (Star (Cel ib 39 (inA i)) (Star (Cel q 9 cur) (Star (Cel r 39 #[.int .i64 0, .int .i64 0, .int .i64 0, .int .i64 0, .int .i64 0]) Emp)))) ∧ Hid (typeR s.data.toList = goR ((opF k).drop k2) (wr_.drop k2) i)) (fun t _ => (formS k).size - (RowKit.intOf t).toNat)
      case atStart => exact ⟨0, _, Nat.zero_le _, rfl, N7, HT⟩
      case round =>
        clear N7 HT
        obtain ⟨k2, i, hk2, rfl, N8, HT⟩ := hrel
        obtain ⟨w8, hw8⟩ : ∃ w8, w8 = wr := ⟨_, rfl⟩
        rw [← hw8] at N8 ⊢
        clear hw8
        by_cases hk2n : k2 < (formS k).size
        · have hle := HLEN.out
          obtain ⟨pw, hpw⟩ : ∃ p, PL[k2 + 1]? = some p := ⟨_, List.getElem?_eq_getElem (by have := HNN.out; omega)⟩
          have qk : w8.cell? ⟨q, k2 + 1, none⟩ = some (.string pw) := N8.out.cellat q (k2 + 1) (HCUR.out _ _ hpw)
          have hi1 : (k2 : Int) + 1 < (N : Int) := by omega
          have hi2 : k2 + 1 < N := by omega
          have hk2I : (k2 : Int) < ((formS k).size : Int) := by omega
          obtain ⟨f, hfe⟩ : ∃ f, (formS k)[k2]'hk2n = f := ⟨_, rfl⟩
          have hf : (opF k)[k2]? = some f := by
            unfold opF
            rw [Array.getElem?_toList, ← hfe]
            exact Array.getElem?_eq_getElem _
          have hfl : isL f = true := List.all_eq_true.1 (opF_isL ⟨k, hkn⟩) f (List.mem_of_getElem? hf)
          have HFL := Lib.hid hfl
          have hxw : wr_[k2]? = some pw.data.toList := by
            have e1 := congrArg (fun l : List (List UInt8) => l[k2 + 1]?) HPC.out
            simp only [HW.out, List.getElem?_map, hpw, Option.map_some] at e1
            rw [List.getElem?_cons_succ] at e1
            exact e1.symm
          have hpz : pw.size ≤ 281474976710656 := by
            have e2 := cutS_sum 32 s.data.toList _ (by rw [HW.out]; exact List.mem_cons_of_mem _ (List.mem_of_getElem? hxw))
            have e3 : pw.data.toList.length = pw.size := rfl
            have e4 : s.data.toList.length = s.size := rfl
            omega
          obtain ⟨xw, hxe⟩ : ∃ xw, pw.data.toList = xw := ⟨_, rfl⟩
          rw [hxe] at hxw
          have HXE := Lib.hid hxe
          have HST : typeR s.data.toList = goR (f :: (opF k).drop (k2 + 1)) (xw :: wr_.drop (k2 + 1)) i := by rw [HT.out, drop_get hf, drop_get hxw]
          have HG0 : Hid (lwR f xw = none → typeR s.data.toList = none) := Lib.hid (fun e => by rw [HST]; unfold goR; rw [e])
          have HG1 : Hid (∀ n, lwR f xw = some n → typeR s.data.toList = goR ((opF k).drop (k2 + 1)) (wr_.drop (k2 + 1)) (setI i f n)) := Lib.hid (fun n e => by rw [HST]; conv => lhs; unfold goR; rw [e])
          have HFE := Lib.hid hfe
          clear HST hxe hxw hf hfl hpw hle
          by_cases hf110 : f = 110
          · have hfI : ((((formS k)[k2]'hk2n).toNat : Int) != 110) = false := by rw [hfe, hf110]; rfl
            have HXL : Hid (lwR f xw = numS pw.data.toList) := Lib.hid (by rw [HXE.out]; subst hf110; rfl)
            have hX := hpz
            clear hpz hf110 hfe
            go_upto_region 16 with fail
            clear hfI
            have hfe := HFE.out
            have C2 := Lib.hid (rnumber_any pw hX w8 (HL.out w8 N8.out.bel))
            clear hX
            go_wp2_with fail
            refine (C2.out).mono ?_
            rintro e wB ⟨⟨v, ok, rfl, hv⟩, hb⟩
            clear C2
            have M10 := Lib.hid ((N8.out.stay hb).norm (Star (Cel ib 39 (inA i)) (Star (Cel q 9 cur) (Star (Cel r 39 #[.int .i64 0, .int .i64 0, .int .i64 0, .int .i64 0, .int .i64 0]) Emp))))
            clear hb N8 qk
            rw [← HXL.out] at hv
            cases hl : lwR f xw with
            | none =>
              rw [hl] at hv
              obtain rfl : ok = false := hv
              have HNT := Lib.hid (typed_none (HG0.out hl))
              clear hl HXL HG0 HG1 HT
              have M8 := Lib.hid (M10.out.rowc r (inA i))
              have MZ := Lib.hid M8.out.bel
              go_wp2_with (first | (refine wpList_rowW (by kernel_rfl) 39 _ rfl ib rfl (inA i) _ (M10.out.getc ib) Tryd.underlying39 rfl (by kernel_rfl) ?_) | (refine wpList_store_row rfl 39 _ _ rfl r (inA i) rfl rfl 39 #[.int .i64 0, .int .i64 0, .int .i64 0, .int .i64 0, .int .i64 0] (M10.out.getc r) (by kernel_rfl) rfl (by kernel_rfl) ?_))
              refine bodyPost_ret (results_cellT_row (p := 2) (q := 3) (ty := 39) rfl _ _ r 39 (inA i) _ (by kernel_rfl) (M8.out.getc r) Tryd.underlying39 rfl (by kernel_rfl) (.bool false) (by kernel_rfl)) rfl ?_
              exact ⟨⟨i, false, rfl, by rw [HNT.out]⟩, by rw [HB.out]; exact MZ.out⟩
            | some n =>
              rw [hl] at hv
              obtain ⟨rfl, rfl⟩ : ok = true ∧ v = n := hv
              have HT2 := Lib.hid (HG1.out v hl)
              clear hl HXL HG0 HG1 HT
              go_upto_region 19 with fail
              have hS : (fun _ : World => True) wB.drew := trivial
              refine wp_region_noPanic ?_
              refine wp_region_held_drew (S := fun _ : World => True) (by kernel_rfl) hS ?_
              intro _
              refine takeR (i := 1) (v := .string (formS k)) 75 rfl (by kernel_rfl) (by kernel_rfl) (by kernel_rfl) (by kernel_rfl) (fun _ _ _ h => h) (yields_pure (by kernel_rfl) (fun w => by kernel_rfl)) hS ?_
              refine takeR (i := 2) (v := .int .i64 k2) 76 rfl (by kernel_rfl) (by kernel_rfl) (by kernel_rfl) (by kernel_rfl) (fun _ _ _ h => h) (yields_pure (by kernel_rfl) (fun w => by kernel_rfl)) hS ?_
              refine takeR (i := 3) (v := .int .u8 f.toNat) 77 rfl (by kernel_rfl) (by kernel_rfl) (by kernel_rfl) (by kernel_rfl) (fun _ _ _ h => h) (yields_pure (by kernel_rfl) (fun w => run_strIdx rfl (by kernel_rfl) (by kernel_rfl) Tryd.underlying9 hk2n hfe)) hS ?_
              refine takeR (i := 4) (v := .int .i64 v) 78 rfl (by kernel_rfl) (by kernel_rfl) (by kernel_rfl) (by kernel_rfl) (fun _ _ _ h => h) (yields_pure (by kernel_rfl) (fun w => by kernel_rfl)) hS ?_
              refine wpAnyH_all (rs := [0]) (by kernel_rfl) (by simp) ?_
              intro j hj
              obtain rfl : j = 0 := by simpa using hj
              refine opR_part 74 rfl (by kernel_rfl) (by kernel_rfl) 39 _ rfl ib 0 (by kernel_rfl) (inA i) _ (fun j u hu => by rw [show wB.drew.cell? ⟨ib, 0 + j, none⟩ = wB.cell? ⟨ib, 0 + j, none⟩ from rfl, (M10.out.getc ib).cell, Nat.zero_add]; simpa using hu) Tryd.underlying39 rfl (by kernel_rfl) ?_
              refine ⟨trivial, ?_⟩
              refine wpAnyH_all (rs := [5]) (by kernel_rfl) (by simp) ?_
              intro j hj
              obtain rfl : j = 5 := by simpa using hj
              refine opR_call 79 rfl rfl (by kernel_rfl) _ _ _ rfl _ (by kernel_rfl) ((rwith_any i HFL.out v _).mono ?_)
              rintro e X ⟨rfl, hbX⟩
              refine ⟨_, rfl, trivial, ?_⟩
              have Ma := Lib.hid ((M10.out.stay ((Below.refl _ _).drew)).stay hbX)
              have Mb := Lib.hid ((Ma.out.rowc ib (inA (setI i f v))).norm (Star (Cel ib 39 (inA (setI i f v))) (Star (Cel q 9 cur) (Star (Cel r 39 #[.int .i64 0, .int .i64 0, .int .i64 0, .int .i64 0, .int .i64 0]) Emp))))
              refine wpAnyH_all (rs := [6]) (by kernel_rfl) (by simp) ?_
              intro j hj
              obtain rfl : j = 6 := by simpa using hj
              refine opR_store rfl (by kernel_rfl) (by kernel_rfl) 39 _ _ rfl ib (inA (setI i f v)) (by kernel_rfl) (by kernel_rfl) 39 (inA i) (Ma.out.getc ib) (by kernel_rfl) rfl (by kernel_rfl) ?_
              refine ⟨trivial, ?_⟩
              refine wpAnyH_done (by kernel_rfl) ?_ _
              refine NoPanic.normal ?_
              simp only [Act.put, List.setIfInBounds_toArray, List.set_cons_succ, List.set_cons_zero]
              obtain ⟨Wf, hW⟩ : ∃ Wf, X.setRow ib (inA (setI i f v)) = Wf := ⟨_, rfl⟩
              have M11 := Mb
              rw [hW] at M11 ⊢
              clear hW Ma Mb M10 hbX hS
              go_wp2_with fail
              first
                | (go_roundw
                   case rel => exact ⟨k2 + 1, setI i f v, by omega, by go_num, M11, HT2⟩
                   case measure => simp [intOf]; omega)
                | (refine ⟨?_, ?_⟩
                   · (repeat apply Exists.intro)
                     refine ⟨?_, rfl⟩
                     exact ⟨k2 + 1, setI i f v, by omega, by go_num, M11, HT2⟩
                   · simp [intOf]; omega)
          · have hfN : ¬ ((f.toNat : Int) = 110) := fun e => hf110 (UInt8.toNat_inj.1 (by rw [show (110 : UInt8).toNat = 110 from rfl]; omega))
            have hfI : ((((formS k)[k2]'hk2n).toNat : Int) != 110) = true := by rw [hfe]; exact bne_iff_ne.2 hfN
            have hfM : ¬ ((((formS k)[k2]'hk2n).toNat : Int) = 110) := by rw [hfe]; exact hfN
            have HF110 := Lib.hid hf110
            clear hf110 hfN hfe
            cases hxc : xw with
            | nil =>
              have hpe : pw = ⟨#[]⟩ := by
                have e1 : pw.data.toList = [] := by rw [HXE.out, hxc]
                have e2 : pw.data = #[] := by simpa using e1
                cases pw; simp only at e2; rw [e2]
              have HNT := Lib.hid (typed_none (HG0.out (by rw [hxc]; unfold lwR; rw [if_neg HF110.out])))
              subst hpe
              clear hxc HG0 HG1 HT
              have M8 := Lib.hid (N8.out.rowc r (inA i))
              have MZ := Lib.hid M8.out.bel
              go_wp2_with (first | (refine wpList_rowW (by kernel_rfl) 39 _ rfl ib rfl (inA i) _ (N8.out.getc ib) Tryd.underlying39 rfl (by kernel_rfl) ?_) | (refine wpList_store_row rfl 39 _ _ rfl r (inA i) rfl rfl 39 #[.int .i64 0, .int .i64 0, .int .i64 0, .int .i64 0, .int .i64 0] (N8.out.getc r) (by kernel_rfl) rfl (by kernel_rfl) ?_))
              refine bodyPost_ret (results_cellT_row (p := 2) (q := 3) (ty := 39) rfl _ _ r 39 (inA i) _ (by kernel_rfl) (M8.out.getc r) Tryd.underlying39 rfl (by kernel_rfl) (.bool false) (by kernel_rfl)) rfl ?_
              exact ⟨⟨i, false, rfl, by rw [HNT.out]⟩, by rw [HB.out]; exact MZ.out⟩
            | cons c rr =>
              have hpl : pw.data.toList = c :: rr := by rw [HXE.out, hxc]
              have hp0 : 0 < pw.size := by have : pw.data.toList.length = pw.size := rfl; rw [hpl] at this; simp only [List.length_cons] at this; omega
              have hpg : pw[0] = c := by
                have : pw.data.toList[0]? = some c := by rw [hpl]; rfl
                rw [Array.getElem?_toList, Array.getElem?_eq_getElem hp0] at this
                exact Option.some.inj this
              have hpn : ¬ pw = ⟨#[]⟩ := fun e => by rw [e] at hp0; exact absurd hp0 (by decide)
              have hpb : ¬ pw.toList = [] := by rw [toList_data, hpl]; simp
              have hpi : pw.toList.isEmpty = false := by rw [toList_data, hpl]; rfl
              have hpzI : (0 : Int) < (pw.size : Int) := by omega
              have hpzI1 : (1 : Int) ≤ (pw.size : Int) := by omega
              by_cases hc114 : c = 114
              · have hcb : (((pw[0]'hp0).toNat : Int) != 114) = false := by rw [hpg, hc114]; rfl
                have HPL : Hid (pw.data.toList = 114 :: rr) := Lib.hid (by rw [hpl, hc114])
                have HXC : Hid (xw = 114 :: rr) := Lib.hid (by rw [hxc, hc114])
                clear hpl hpg hc114 hxc
                have hex : (pw.extract 1 pw.size).data.toList = rr := by
                  have e0 : pw.data.size = rr.length + 1 := by rw [← Array.length_toList, HPL.out]; rfl
                  have e1 : pw.size = rr.length + 1 := e0
                  rw [ByteArray.data_extract, Array.toList_extract, HPL.out, e1]
                  simp [List.extract]
                have hX : (pw.extract 1 pw.size).size ≤ 281474976710656 := by
                  have e1 : (pw.extract 1 pw.size).size = pw.size - 1 := by simp
                  omega
                have HXL : Hid (lwR f xw = numS (pw.extract 1 pw.size).data.toList) := Lib.hid (by rw [HXC.out, hex]; unfold lwR; rw [if_neg HF110.out]; simp only [if_pos])
                clear hex HPL
                go_upto_region 16 with fail
                clear hfI hfM
                have hfe := HFE.out
                have C2 := Lib.hid (rnumber_any (pw.extract 1 pw.size) hX w8 (HL.out w8 N8.out.bel))
                clear hX
                go_wp2_with fail
                refine (C2.out).mono ?_
                rintro e wB ⟨⟨v, ok, rfl, hv⟩, hb⟩
                clear C2
                have M10 := Lib.hid ((N8.out.stay hb).norm (Star (Cel ib 39 (inA i)) (Star (Cel q 9 cur) (Star (Cel r 39 #[.int .i64 0, .int .i64 0, .int .i64 0, .int .i64 0, .int .i64 0]) Emp))))
                clear hb N8 qk
                rw [← HXL.out] at hv
                cases hl : lwR f xw with
                | none =>
                  rw [hl] at hv
                  obtain rfl : ok = false := hv
                  have HNT := Lib.hid (typed_none (HG0.out hl))
                  clear hl HXL HG0 HG1 HT
                  have M8 := Lib.hid (M10.out.rowc r (inA i))
                  have MZ := Lib.hid M8.out.bel
                  go_wp2_with (first | (refine wpList_rowW (by kernel_rfl) 39 _ rfl ib rfl (inA i) _ (M10.out.getc ib) Tryd.underlying39 rfl (by kernel_rfl) ?_) | (refine wpList_store_row rfl 39 _ _ rfl r (inA i) rfl rfl 39 #[.int .i64 0, .int .i64 0, .int .i64 0, .int .i64 0, .int .i64 0] (M10.out.getc r) (by kernel_rfl) rfl (by kernel_rfl) ?_))
                  refine bodyPost_ret (results_cellT_row (p := 2) (q := 3) (ty := 39) rfl _ _ r 39 (inA i) _ (by kernel_rfl) (M8.out.getc r) Tryd.underlying39 rfl (by kernel_rfl) (.bool false) (by kernel_rfl)) rfl ?_
                  exact ⟨⟨i, false, rfl, by rw [HNT.out]⟩, by rw [HB.out]; exact MZ.out⟩
                | some n =>
                  rw [hl] at hv
                  obtain ⟨rfl, rfl⟩ : ok = true ∧ v = n := hv
                  have HT2 := Lib.hid (HG1.out v hl)
                  clear hl HXL HG0 HG1 HT
                  go_upto_region 19 with fail
                  have hS : (fun _ : World => True) wB.drew := trivial
                  refine wp_region_noPanic ?_
                  refine wp_region_held_drew (S := fun _ : World => True) (by kernel_rfl) hS ?_
                  intro _
                  refine takeR (i := 1) (v := .string (formS k)) 75 rfl (by kernel_rfl) (by kernel_rfl) (by kernel_rfl) (by kernel_rfl) (fun _ _ _ h => h) (yields_pure (by kernel_rfl) (fun w => by kernel_rfl)) hS ?_
                  refine takeR (i := 2) (v := .int .i64 k2) 76 rfl (by kernel_rfl) (by kernel_rfl) (by kernel_rfl) (by kernel_rfl) (fun _ _ _ h => h) (yields_pure (by kernel_rfl) (fun w => by kernel_rfl)) hS ?_
                  refine takeR (i := 3) (v := .int .u8 f.toNat) 77 rfl (by kernel_rfl) (by kernel_rfl) (by kernel_rfl) (by kernel_rfl) (fun _ _ _ h => h) (yields_pure (by kernel_rfl) (fun w => run_strIdx rfl (by kernel_rfl) (by kernel_rfl) Tryd.underlying9 hk2n hfe)) hS ?_
                  refine takeR (i := 4) (v := .int .i64 v) 78 rfl (by kernel_rfl) (by kernel_rfl) (by kernel_rfl) (by kernel_rfl) (fun _ _ _ h => h) (yields_pure (by kernel_rfl) (fun w => by kernel_rfl)) hS ?_
                  refine wpAnyH_all (rs := [0]) (by kernel_rfl) (by simp) ?_
                  intro j hj
                  obtain rfl : j = 0 := by simpa using hj
                  refine opR_part 74 rfl (by kernel_rfl) (by kernel_rfl) 39 _ rfl ib 0 (by kernel_rfl) (inA i) _ (fun j u hu => by rw [show wB.drew.cell? ⟨ib, 0 + j, none⟩ = wB.cell? ⟨ib, 0 + j, none⟩ from rfl, (M10.out.getc ib).cell, Nat.zero_add]; simpa using hu) Tryd.underlying39 rfl (by kernel_rfl) ?_
                  refine ⟨trivial, ?_⟩
                  refine wpAnyH_all (rs := [5]) (by kernel_rfl) (by simp) ?_
                  intro j hj
                  obtain rfl : j = 5 := by simpa using hj
                  refine opR_call 79 rfl rfl (by kernel_rfl) _ _ _ rfl _ (by kernel_rfl) ((rwith_any i HFL.out v _).mono ?_)
                  rintro e X ⟨rfl, hbX⟩
                  refine ⟨_, rfl, trivial, ?_⟩
                  have Ma := Lib.hid ((M10.out.stay ((Below.refl _ _).drew)).stay hbX)
                  have Mb := Lib.hid ((Ma.out.rowc ib (inA (setI i f v))).norm (Star (Cel ib 39 (inA (setI i f v))) (Star (Cel q 9 cur) (Star (Cel r 39 #[.int .i64 0, .int .i64 0, .int .i64 0, .int .i64 0, .int .i64 0]) Emp))))
                  refine wpAnyH_all (rs := [6]) (by kernel_rfl) (by simp) ?_
                  intro j hj
                  obtain rfl : j = 6 := by simpa using hj
                  refine opR_store rfl (by kernel_rfl) (by kernel_rfl) 39 _ _ rfl ib (inA (setI i f v)) (by kernel_rfl) (by kernel_rfl) 39 (inA i) (Ma.out.getc ib) (by kernel_rfl) rfl (by kernel_rfl) ?_
                  refine ⟨trivial, ?_⟩
                  refine wpAnyH_done (by kernel_rfl) ?_ _
                  refine NoPanic.normal ?_
                  simp only [Act.put, List.setIfInBounds_toArray, List.set_cons_succ, List.set_cons_zero]
                  obtain ⟨Wf, hW⟩ : ∃ Wf, X.setRow ib (inA (setI i f v)) = Wf := ⟨_, rfl⟩
                  have M11 := Mb
                  rw [hW] at M11 ⊢
                  clear hW Ma Mb M10 hbX hS
                  go_wp2_with fail
                  first
                    | (go_roundw
                       case rel => exact ⟨k2 + 1, setI i f v, by omega, by go_num, M11, HT2⟩
                       case measure => simp [intOf]; omega)
                    | (refine ⟨?_, ?_⟩
                       · (repeat apply Exists.intro)
                         refine ⟨?_, rfl⟩
                         exact ⟨k2 + 1, setI i f v, by omega, by go_num, M11, HT2⟩
                       · simp [intOf]; omega)
              · have hcb : (((pw[0]'hp0).toNat : Int) != 114) = true := bne_iff_ne.2 (fun e => hc114 (UInt8.toNat_inj.1 (by rw [show (114 : UInt8).toNat = 114 from rfl]; rw [hpg] at e; omega)))
                have HC := Lib.hid hc114
                have HXC := Lib.hid hxc
                clear hc114 hpl hpg hxc
                have HNT := Lib.hid (typed_none (HG0.out (by rw [HXC.out]; unfold lwR; rw [if_neg HF110.out]; simp only [if_neg HC.out])))
                clear HG0 HG1 HT
                have M8 := Lib.hid (N8.out.rowc r (inA i))
                have MZ := Lib.hid M8.out.bel
                go_wp2_with (first | (refine wpList_rowW (by kernel_rfl) 39 _ rfl ib rfl (inA i) _ (N8.out.getc ib) Tryd.underlying39 rfl (by kernel_rfl) ?_) | (refine wpList_store_row rfl 39 _ _ rfl r (inA i) rfl rfl 39 #[.int .i64 0, .int .i64 0, .int .i64 0, .int .i64 0, .int .i64 0] (N8.out.getc r) (by kernel_rfl) rfl (by kernel_rfl) ?_))
                refine bodyPost_ret (results_cellT_row (p := 2) (q := 3) (ty := 39) rfl _ _ r 39 (inA i) _ (by kernel_rfl) (M8.out.getc r) Tryd.underlying39 rfl (by kernel_rfl) (.bool false) (by kernel_rfl)) rfl ?_
                exact ⟨⟨i, false, rfl, by rw [HNT.out]⟩, by rw [HB.out]; exact MZ.out⟩
        · have hk2e : k2 = (formS k).size := by omega
          have HNT : Hid (match typeS s.data.toList with | some j => mayS i = true ∧ i = j | none => mayS i = false) := Lib.hid (by
            have e1 : typeR s.data.toList = some i := by rw [HT.out, hk2e, ← hFl, List.drop_length]; rfl
            rw [typed_some e1]
            cases hm : mayS i with
            | true => rw [if_pos rfl]; exact ⟨rfl, rfl⟩
            | false => rw [if_neg Bool.false_ne_true])
          have HMY : Hid (∀ X : World, Calls Tryd.prog 24 #[.agg (inA i)] X fun e w' => e = .returned (.bool (mayS i)) ∧ Below X.heap.size X w') := Lib.hid (fun X => rmay_any i X)
          clear hk2e HT
          go_upto_region 20 with fail
          have hS0 : (fun X => Blk X ib 39 (inA i)) w8.drew := N8.out.getc ib
          refine wp_region_noPanic ?_
          refine wp_region_held_drew (S := fun X => Blk X ib 39 (inA i)) (by kernel_rfl) hS0 ?_
          clear hS0
          intro hS
          refine takeR (i := 0) 80 rfl (by kernel_rfl) (by kernel_rfl) (by kernel_rfl) (by kernel_rfl) (fun _ _ _ h => h) (yields_load_row (by kernel_rfl) 39 _ rfl ib (by kernel_rfl) 39 (inA i) _ (fun w h => h) Tryd.underlying39 rfl (by kernel_rfl)) hS ?_
          refine takeR (i := 1) 81 rfl (by kernel_rfl) (by kernel_rfl) (by kernel_rfl) (by kernel_rfl) (fun _ _ _ h => h) (yields_load_row (by kernel_rfl) 39 _ rfl ib (by kernel_rfl) 39 (inA i) _ (fun w h => h) Tryd.underlying39 rfl (by kernel_rfl)) hS ?_
          refine wpAnyH_all (rs := [2]) (by kernel_rfl) (by simp) ?_
          intro j hj
          obtain rfl : j = 2 := by simpa using hj
          refine opR_call 82 rfl rfl (by kernel_rfl) _ _ _ rfl _ (by kernel_rfl) ((HMY.out _).mono ?_)
          rintro e X ⟨rfl, hbX⟩
          refine ⟨_, rfl, hS.keep hbX, ?_⟩
          have hS := hS.keep hbX
          have Ma := Lib.hid ((N8.out.stay ((Below.refl _ _).drew)).stay hbX)
          have Mb := Lib.hid (Ma.out.rowc r (inA i))
          refine wpAnyH_all (rs := [3]) (by kernel_rfl) (by simp) ?_
          intro j hj
          obtain rfl : j = 3 := by simpa using hj
          refine opR_store rfl (by kernel_rfl) (by kernel_rfl) 39 _ _ rfl r (inA i) (by kernel_rfl) (by kernel_rfl) 39 #[.int .i64 0, .int .i64 0, .int .i64 0, .int .i64 0, .int .i64 0] (Ma.out.getc r) (by kernel_rfl) rfl (by kernel_rfl) ?_
          refine ⟨hS.st HIR.out, ?_⟩
          have hS := hS.st (cs' := inA i) HIR.out
          refine takeR (i := 4) (v := .bool (mayS i)) 3 rfl (by kernel_rfl) (by kernel_rfl) (by kernel_rfl) (by kernel_rfl) (fun _ _ _ h => h) (yields_pure (by kernel_rfl) (fun w => by kernel_rfl)) hS ?_
          refine wpAnyH_done (by kernel_rfl) ?_ _
          refine NoPanic.normal ?_
          simp only [Act.put, List.setIfInBounds_toArray, List.set_cons_succ, List.set_cons_zero]
          have MZ := Lib.hid Mb.out.bel
          go_wp2_with fail
          refine bodyPost_ret (results_cellT_row (p := 2) (q := 3) (ty := 39) rfl _ _ r 39 (inA i) _ (by kernel_rfl) (Mb.out.getc r) Tryd.underlying39 rfl (by kernel_rfl) (.bool (mayS i)) (by kernel_rfl)) rfl ?_
          exact ⟨⟨i, mayS i, rfl, HNT.out⟩, by rw [HB.out]; exact MZ.out⟩
    · have hk23 : k = 23 := by omega
      have hnT : typeS s.data.toList = none := by
        unfold typeS
        rw [HW.out]
        simp only [List.headD_cons]
        cases hf : fndS w0 23 0 with
        | none => rfl
        | some j =>
          obtain ⟨h1, _, h3⟩ := fnd_inv 23 0 j hf
          simp only
          rw [if_neg]
          have := HNO.out j (by omega) h1
          simp only [List.length_cons]
          omega
      have HNT := Lib.hid hnT
      clear hnT HNO
      subst hk23
      have M8 := Lib.hid (M3.out.rowc r (inA ⟨0, 0, 0, 0, 0⟩))
      have MZ := Lib.hid M8.out.bel
      go_wp2_with (first | (refine wpList_store_row rfl 39 _ _ rfl r (inA ⟨0, 0, 0, 0, 0⟩) rfl rfl 39 #[.int .i64 0, .int .i64 0, .int .i64 0, .int .i64 0, .int .i64 0] (M3.out.getc r) (by kernel_rfl) rfl (by kernel_rfl) ?_))
      refine bodyPost_ret (results_cellT_row (p := 2) (q := 3) (ty := 39) rfl _ _ r 39 (inA ⟨0, 0, 0, 0, 0⟩) _ (by kernel_rfl) (M8.out.getc r) Tryd.underlying39 rfl (by kernel_rfl) (.bool false) (by kernel_rfl)) rfl ?_
      exact ⟨⟨⟨0, 0, 0, 0, 0⟩, false, rfl, by rw [HNT.out]⟩, by rw [HB.out]; exact MZ.out⟩
end Go.Proofs.YtmbacegbcccdjaaDoor
