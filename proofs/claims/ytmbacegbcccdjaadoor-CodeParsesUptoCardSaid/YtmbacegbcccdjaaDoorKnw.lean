/-
  Layer 4: the document's Parse: what it computes; the walk of CodeParses.
  Conditions: none. (My own text.)
-/
import Derived.Test.YtmbacegbcccdjaaDoorKnv
import Derived.Test.YtmbacegbcccdjaaDoorKnq
import Derived.Deep.Onto
import Derived.Laws.OwnMore
import Derived.Deep.AppendLies
namespace Go.Proofs.YtmbacegbcccdjaaDoor
open Go.RowKit Spm
set_option linter.unusedVariables false
set_option linter.unusedSimpArgs false

open Go.Lib hiding intOf
attribute [local irreducible] wpList
theorem cutS_snoc (c : UInt8) : ∀ u : List UInt8, cutS c (u ++ [c]) = cutS c u ++ [[]]
  | [] => by
    rw [List.nil_append]
    unfold cutS
    rw [if_pos rfl]
    rfl
  | x :: u => by
    have ih := cutS_snoc c u
    rw [List.cons_append]
    conv => lhs; unfold cutS
    conv => rhs; unfold cutS
    by_cases hx : x = c
    · rw [if_pos hx, if_pos hx, ih]; rfl
    · rw [if_neg hx, if_neg hx, ih]
      cases hk : cutS c u with
      | nil => exact absurd hk (cutS_ne c u)
      | cons a b => rfl
theorem parse_lines {S : List UInt8} (hS : S ≠ []) {X : List (List UInt8)} {y : List UInt8} (h : cutS 10 S = X ++ [y]) : (y = [] → cutS 10 (trimS S) = X) ∧ (y ≠ [] → cutS 10 (trimS S) = X ++ [y]) := by
  by_cases he : ∃ u, S = u ++ [10]
  · obtain ⟨u, rfl⟩ := he
    rw [cutS_snoc] at h
    obtain ⟨h1, h2⟩ := List.append_inj' h rfl
    obtain rfl : ([] : List UInt8) = y := by simpa using h2
    rw [trimS_end]
    exact ⟨fun _ => h1, fun h => absurd rfl h⟩
  · have ht : trimS S = S := by
      rcases trimS_cases S with e | e
      · exact e
      · exact absurd ⟨_, e⟩ he
    rw [ht, h]
    refine ⟨fun hy => ?_, fun _ => rfl⟩
    subst hy
    have hj := joinS_cut 10 S
    rw [h] at hj
    cases X with
    | nil => exact absurd hj.symm hS
    | cons p r =>
      refine absurd ⟨p ++ r.flatMap (fun w => 10 :: w), ?_⟩ he
      rw [← hj, List.cons_append, joinS_cons, List.flatMap_append]
      simp
theorem count_cut (c : UInt8) (l : List UInt8) : (cutS c l).length ≤ l.length + 1 := by
  rw [cutS_len]
  have := List.count_le_length (a := c) (l := l)
  omega
set_option maxRecDepth 100000 in
set_option maxHeartbeats 4000000 in
theorem rparse_any (s : ByteArray) (hs : s.size ≤ 134217728) (w : World) (hL : LaidW w) : Calls Tryd.prog 13 #[.string s] w (ParE (parseS s.data.toList) w) := by
  have HL := Lib.hid (fun (X : World) (hb : Below w.heap.size w X) => hL.below hb)
  clear hL
  obtain ⟨i0, hi, hz0, hz1, hz2⟩ := info_parts ins_info
  have HI := Lib.hid (And.intro hi (And.intro hz0 (And.intro hz1 hz2)))
  clear hi hz0 hz1 hz2
  by_cases hs0 : s = ⟨#[]⟩
  · subst hs0
    have HE : Hid (parseS (⟨#[]⟩ : ByteArray).data.toList = ([], 0, 0)) := Lib.hid rfl
    clear HI HL
    go_enter Tryd.func13, Tryd.ntmps13
    go_wp2
    go_ret3
    exact ⟨⟨_, by rw [HE.out]; rfl, by rw [HE.out]; exact World.ownsRow_nil _ _ _ _⟩, Below.refl _ _⟩
  have hsl : ¬ s.data.toList = [] := fun e => hs0 (by cases s; simp only at e ⊢; congr 1; simpa using e)
  have hpb : ¬ s.toList = [] := by rw [toList_data]; exact hsl
  have hpi : s.toList.isEmpty = false := by rw [toList_data]; cases h : s.data.toList with | nil => exact absurd h hsl | cons a b => rfl
  have HPT : Hid (parseS s.data.toList = parS (cutS 10 (trimS s.data.toList)) 0 []) := Lib.hid (by unfold parseS; rw [if_neg hsl])
  have HSL := Lib.hid hsl
  clear hsl
  have C1 : Hid (Calls Tryd.prog 29 #[.string s, .int .u8 10] w (CutE 10 s w)) := Lib.hid (rcut_any s hs 10 w)
  go_enter Tryd.func13, Tryd.ntmps13
  go_wp2_with fail
  refine (C1.out).mono ?_
  rintro e w2 ⟨q, cap, cur, PL, rfl, hblk, hq, hcur, hmap, hlc, hcm, hb⟩
  have B2 := Lib.hid hb
  have HQB := Lib.hid hblk
  have HQL := Lib.hid hblk.lt
  have HCUR := Lib.hid hcur
  have HPC := Lib.hid hmap
  unfold maxLen at hcm
  clear hblk hq hcur hmap hb C1 hpb hpi hs0
  have hcl := count_cut 10 s.data.toList
  have hcn := cutS_len 10 s.data.toList
  rw [← HPC.out, List.length_map] at hcl hcn
  have hsz : s.data.toList.length = s.size := rfl
  obtain ⟨M, hM⟩ : ∃ M, PL.length = M + 1 := ⟨PL.length - 1, by omega⟩
  rw [hM] at hlc ⊢
  have hMs : M + 1 ≤ 134217729 := by omega
  clear hcl hcn hsz
  obtain ⟨pl, hpl⟩ : ∃ pl, PL[M]? = some pl := ⟨_, List.getElem?_eq_getElem (by omega)⟩
  have HPX : Hid (cutS 10 s.data.toList = (cutS 10 s.data.toList).take M ++ [pl.data.toList]) := Lib.hid (by
    conv => lhs; rw [← List.take_append_drop M (cutS 10 s.data.toList)]
    congr 1
    rw [← HPC.out, ← List.map_drop, drop_get hpl, List.drop_eq_nil_of_le (by omega)]
    rfl)
  have HPL2 := Lib.hid (parse_lines HSL.out HPX.out)
  have qm : w2.cell? ⟨q, M, none⟩ = some (.string pl) := by rw [HQB.out.cell]; exact HCUR.out M pl hpl
  have HNN := Lib.hid hM
  clear hpl hM
  by_cases hpe : pl = ⟨#[]⟩
  · subst hpe
    have hcM : M ≤ cap := by omega
    obtain ⟨LL, hLL⟩ : ∃ LL, LL = (cutS 10 s.data.toList).take M := ⟨_, rfl⟩
    have HPS : Hid (parseS s.data.toList = parS LL 0 []) := Lib.hid (by rw [HPT.out, HPL2.out.1 rfl, hLL])
    have HLL := Lib.hid hLL
    clear hLL HPL2 HPX
    go_upto_region 6 with fail
    obtain ⟨K, hK⟩ : ∃ K, M = K := ⟨_, rfl⟩
    subst hK
    clear qm
    go_wp2_with fail
    go_loopw [6, 7] (fun v t wr => ∃ (k : Nat) (acc : List Ins), k ≤ M ∧ t = .int .i64 k ∧ Hid (acc.length = k) ∧ Hid (parS LL 0 [] = parS (LL.drop k) k acc) ∧ Hid (wr.ownsRow w2.heap.size 39 5 v acc.length (acc.flatMap Ins.cells)) ∧ Hid (Below w2.heap.size w2 wr)) (fun _ t _ => M - (intOf t).toNat)
    case atStart => exact ⟨0, [], Nat.zero_le _, rfl, Lib.hid rfl, Lib.hid rfl, Lib.hid (World.ownsRow_nil _ _ _ _), Lib.hid (Below.refl _ _)⟩
    case round =>
      obtain ⟨k, acc, hk, rfl, HLE, HPA, HOW, HB⟩ := hrel
      obtain ⟨w3, hw3⟩ : ∃ w3, w3 = wr := ⟨_, rfl⟩
      rw [← hw3] at HOW HB ⊢
      clear hw3
      have HBW : Hid (Below w.heap.size w w3) := Lib.hid (B2.out.trans (HB.out.mono B2.out.size))
      by_cases hkn : k < M
      · obtain ⟨p, hp⟩ : ∃ p, PL[k]? = some p := ⟨_, List.getElem?_eq_getElem (by have := HNN.out; omega)⟩
        have hcp : LL[k]? = some p.data.toList := by rw [HLL.out, List.getElem?_take_of_lt hkn, ← HPC.out, List.getElem?_map, hp]; rfl
        have qk : w3.cell? ⟨q, k, none⟩ = some (.string p) := (HB.out.cell (p := ⟨q, k, none⟩) HQL.out).trans (by rw [HQB.out.cell]; exact HCUR.out k p hp)
        have hps : p.size ≤ 134217728 := by
          have e2 := cutS_sum 10 s.data.toList _ (by rw [← HPC.out]; exact List.mem_map_of_mem (List.mem_of_getElem? hp))
          have e3 := size_eq p
          have e4 := size_eq s
          omega
        have C2 := Lib.hid (rtyped_any p hps w3 (HL.out w3 HBW.out))
        have HCP := Lib.hid hcp
        have hkI : (k : Int) < (M : Int) := by omega
        clear hp hcp hps HBW
        go_wp2_with fail
        refine (C2.out).mono ?_
        rintro e w4 ⟨⟨i, ok, he, hv⟩, hb⟩
        have he2 : e = .returned (.tuple #[.agg #[.int .i64 i.op, .int .i64 i.a, .int .i64 i.b, .int .i64 i.c, .int .i64 i.n], .bool ok]) := he
        subst he2
        clear he C2 qk
        have hlt0 := HOW.out.lt
        have B4 : Hid (Below w2.heap.size w2 w4) := Lib.hid (HB.out.trans (hb.mono HB.out.size))
        have O4 := Lib.hid (owns_block HOW.out (fun g hg => hb.block g (hlt0 g hg).2))
        clear hb hlt0 HB HOW
        have N0 := Lib.hid ((Has.start (Below.refl w4.heap.size w4) (Nat.le_refl _)).newcel 39 #[.int .i64 0, .int .i64 0, .int .i64 0, .int .i64 0, .int .i64 0])
        have N1 := Lib.hid (N0.out.rowc w4.heap.size #[.int .i64 i.op, .int .i64 i.a, .int .i64 i.b, .int .i64 i.c, .int .i64 i.n])
        go_upto_region 11 with (first | (refine wpList_store_row rfl 39 _ _ rfl w4.heap.size #[.int .i64 i.op, .int .i64 i.a, .int .i64 i.b, .int .i64 i.c, .int .i64 i.n] rfl rfl 39 #[.int .i64 0, .int .i64 0, .int .i64 0, .int .i64 0, .int .i64 0] (N0.out.getc w4.heap.size) (by kernel_rfl) rfl (by kernel_rfl) ?_))
        obtain ⟨w5, hW⟩ : ∃ w5, (w4.alloc (.cells #[.int .i64 0, .int .i64 0, .int .i64 0, .int .i64 0, .int .i64 0] 39)).setRow w4.heap.size #[.int .i64 i.op, .int .i64 i.a, .int .i64 i.b, .int .i64 i.c, .int .i64 i.n] = w5 := ⟨_, rfl⟩
        have N5 := N1
        rw [hW] at N5 ⊢
        clear hW N0 N1
        have hlt4 := O4.out.lt
        have B5 : Hid (Below w2.heap.size w2 w5) := Lib.hid (B4.out.trans (N5.out.bel.mono B4.out.size))
        have O5 := Lib.hid (owns_block O4.out (fun g hg => N5.out.bel.block g (hlt4 g hg).2))
        clear hlt4 B4 O4
        generalize w4.heap.size = x at N5 ⊢
        cases ok with
        | false =>
          have hT : typeS p.data.toList = none := by
            cases h : typeS p.data.toList with
            | none => rfl
            | some j => rw [h] at hv; exact absurd hv.1 Bool.noConfusion
          have HE : Hid (parseS s.data.toList = ([], k + 1, 41)) := Lib.hid (by
            rw [HPS.out, HPA.out, drop_get HCP.out]
            conv => lhs; unfold parS
            rw [hT])
          have MZ : Hid (Below w.heap.size w w5) := Lib.hid (B2.out.trans (B5.out.mono B2.out.size))
          clear hv hT
          go_wp2_with fail
          go_ret3
          exact ⟨⟨_, by rw [HE.out]; first | rfl | simp, by rw [HE.out]; exact World.ownsRow_nil _ _ _ _⟩, MZ.out⟩
        | true =>
          have hT : typeS p.data.toList = some i := by
            cases h : typeS p.data.toList with
            | none => rw [h] at hv; exact absurd hv Bool.noConfusion
            | some j => rw [h] at hv; rw [hv.2]
          have HPN : Hid (parS LL 0 [] = parS (LL.drop (k + 1)) (k + 1) (acc ++ [i])) := Lib.hid (by
            rw [HPA.out, drop_get HCP.out]
            conv => lhs; unfold parS
            rw [hT])
          clear hv hT HPA
          go_wp2_with (first | (refine wpList_rowW (by kernel_rfl) 39 _ rfl x rfl #[.int .i64 i.op, .int .i64 i.a, .int .i64 i.b, .int .i64 i.c, .int .i64 i.n] _ (N5.out.getc x) Tryd.underlying39 rfl (by kernel_rfl) ?_) | (at_builtin; refine wpList_append_own _ rfl _ _ 23 rfl w2.heap.size 39 i0 (.agg #[.int .i64 0, .int .i64 0, .int .i64 0, .int .i64 0, .int .i64 0]) 5 40 Tryd.underlying23 HI.out.1 HI.out.2.1 HI.out.2.2.1 HI.out.2.2.2 rfl (by decide) _ acc.length _ rfl (O5.out.alloc _) ⟨w5.heap.size, 0, none⟩ 1 1 [.int .i64 i.op, .int .i64 i.a, .int .i64 i.b, .int .i64 i.c, .int .i64 i.n] rfl ?c1 ?c2 ?c3 ?c4 ?c5 ?c6 ?_))
          case c1 => rfl
          case c2 => exact World.news_of_block (heap_alloc_new _ _)
          case c3 => (intro u hu; simp only [List.mem_cons, List.not_mem_nil, or_false] at hu; rcases hu with rfl | rfl | rfl | rfl | rfl <;> rfl)
          case c4 => unfold maxLen; have := HLE.out; omega
          case c5 => have := HLE.out; omega
          case c6 => have := B5.out.size; simp; omega
          intro v' w6 hown1 hgrow _
          have hlt1 := O5.out.lt
          have H5 : Hid (w6.ownsRow w2.heap.size 39 5 v' (acc ++ [i]).length ((acc ++ [i]).flatMap Ins.cells)) := Lib.hid (by rw [List.flatMap_append, List.length_append]; exact hown1)
          have H6 : Hid (Below w2.heap.size w2 w6) := Lib.hid ((B5.out.alloc B5.out.size _).grown hgrow (by have := B5.out.size; simp; omega) (fun j hj => (hlt1 j hj).1))
          have H8 : Hid ((acc ++ [i]).length = k + 1) := Lib.hid (by have := HLE.out; simp; omega)
          clear hown1 hgrow hlt1 HLE O5 B5 N5
          generalize acc ++ [i] = acc2 at H5 H8 HPN
          go_wp2_with fail
          first
            | (go_roundw
               case rel => exact ⟨k + 1, acc2, by omega, by go_num, H8, HPN, H5, H6⟩
               case measure => simp [intOf]; omega)
            | (refine ⟨?_, ?_⟩
               · (repeat apply Exists.intro)
                 refine ⟨?_, rfl⟩
                 exact ⟨k + 1, acc2, by omega, by go_num, H8, HPN, H5, H6⟩
               · simp [intOf]; omega)
      · have HE : Hid (parseS s.data.toList = (acc, 0, 0)) := Lib.hid (by
          have e1 : LL.length ≤ M := by rw [HLL.out, List.length_take]; omega
          rw [HPS.out, HPA.out, List.drop_eq_nil_of_le (by omega)]
          rfl)
        go_wp2_with fail
        go_ret3
        exact ⟨⟨_, by rw [HE.out]; rfl, by rw [HE.out]; exact HOW.out.mono B2.out.size⟩, HBW.out⟩
  · have hpn : ¬ pl.data.toList = [] := fun e => hpe (by cases pl; simp only at e ⊢; congr 1; simpa using e)
    have hpb : ¬ pl.toList = [] := by rw [toList_data]; exact hpn
    have hpi : pl.toList.isEmpty = false := by rw [toList_data]; cases h : pl.data.toList with | nil => exact absurd h hpn | cons a b => rfl
    obtain ⟨LL, hLL⟩ : ∃ LL, LL = (cutS 10 s.data.toList).take (M + 1) := ⟨_, rfl⟩
    have HPS : Hid (parseS s.data.toList = parS LL 0 []) := Lib.hid (by
      rw [HPT.out, HPL2.out.2 hpn, ← HPX.out, hLL, List.take_of_length_le]
      rw [← HPC.out, List.length_map, HNN.out]
      exact Nat.le_refl _)
    have HLL := Lib.hid hLL
    clear hLL HPL2 HPX hpn
    go_upto_region 6 with fail
    clear qm hpb hpi hpe
    obtain ⟨K, hK⟩ : ∃ K, M + 1 = K := ⟨_, rfl⟩
    rw [hK] at HLL HNN hlc hMs ⊢
    go_wp2_with fail
    go_loopw [6, 7] (fun v t wr => ∃ (k : Nat) (acc : List Ins), k ≤ K ∧ t = .int .i64 k ∧ Hid (acc.length = k) ∧ Hid (parS LL 0 [] = parS (LL.drop k) k acc) ∧ Hid (wr.ownsRow w2.heap.size 39 5 v acc.length (acc.flatMap Ins.cells)) ∧ Hid (Below w2.heap.size w2 wr)) (fun _ t _ => K - (intOf t).toNat)
    case atStart => exact ⟨0, [], Nat.zero_le _, rfl, Lib.hid rfl, Lib.hid rfl, Lib.hid (World.ownsRow_nil _ _ _ _), Lib.hid (Below.refl _ _)⟩
    case round =>
      obtain ⟨k, acc, hk, rfl, HLE, HPA, HOW, HB⟩ := hrel
      obtain ⟨w3, hw3⟩ : ∃ w3, w3 = wr := ⟨_, rfl⟩
      rw [← hw3] at HOW HB ⊢
      clear hw3
      have HBW : Hid (Below w.heap.size w w3) := Lib.hid (B2.out.trans (HB.out.mono B2.out.size))
      by_cases hkn : k < K
      · obtain ⟨p, hp⟩ : ∃ p, PL[k]? = some p := ⟨_, List.getElem?_eq_getElem (by have := HNN.out; omega)⟩
        have hcp : LL[k]? = some p.data.toList := by rw [HLL.out, List.getElem?_take_of_lt hkn, ← HPC.out, List.getElem?_map, hp]; rfl
        have qk : w3.cell? ⟨q, k, none⟩ = some (.string p) := (HB.out.cell (p := ⟨q, k, none⟩) HQL.out).trans (by rw [HQB.out.cell]; exact HCUR.out k p hp)
        have hps : p.size ≤ 134217728 := by
          have e2 := cutS_sum 10 s.data.toList _ (by rw [← HPC.out]; exact List.mem_map_of_mem (List.mem_of_getElem? hp))
          have e3 := size_eq p
          have e4 := size_eq s
          omega
        have C2 := Lib.hid (rtyped_any p hps w3 (HL.out w3 HBW.out))
        have HCP := Lib.hid hcp
        have hkI : (k : Int) < (K : Int) := by omega
        clear hp hcp hps HBW
        go_wp2_with fail
        refine (C2.out).mono ?_
        rintro e w4 ⟨⟨i, ok, he, hv⟩, hb⟩
        have he2 : e = .returned (.tuple #[.agg #[.int .i64 i.op, .int .i64 i.a, .int .i64 i.b, .int .i64 i.c, .int .i64 i.n], .bool ok]) := he
        subst he2
        clear he C2 qk
        have hlt0 := HOW.out.lt
        have B4 : Hid (Below w2.heap.size w2 w4) := Lib.hid (HB.out.trans (hb.mono HB.out.size))
        have O4 := Lib.hid (owns_block HOW.out (fun g hg => hb.block g (hlt0 g hg).2))
        clear hb hlt0 HB HOW
        have N0 := Lib.hid ((Has.start (Below.refl w4.heap.size w4) (Nat.le_refl _)).newcel 39 #[.int .i64 0, .int .i64 0, .int .i64 0, .int .i64 0, .int .i64 0])
        have N1 := Lib.hid (N0.out.rowc w4.heap.size #[.int .i64 i.op, .int .i64 i.a, .int .i64 i.b, .int .i64 i.c, .int .i64 i.n])
        go_upto_region 11 with (first | (refine wpList_store_row rfl 39 _ _ rfl w4.heap.size #[.int .i64 i.op, .int .i64 i.a, .int .i64 i.b, .int .i64 i.c, .int .i64 i.n] rfl rfl 39 #[.int .i64 0, .int .i64 0, .int .i64 0, .int .i64 0, .int .i64 0] (N0.out.getc w4.heap.size) (by kernel_rfl) rfl (by kernel_rfl) ?_))
        obtain ⟨w5, hW⟩ : ∃ w5, (w4.alloc (.cells #[.int .i64 0, .int .i64 0, .int .i64 0, .int .i64 0, .int .i64 0] 39)).setRow w4.heap.size #[.int .i64 i.op, .int .i64 i.a, .int .i64 i.b, .int .i64 i.c, .int .i64 i.n] = w5 := ⟨_, rfl⟩
        have N5 := N1
        rw [hW] at N5 ⊢
        clear hW N0 N1
        have hlt4 := O4.out.lt
        have B5 : Hid (Below w2.heap.size w2 w5) := Lib.hid (B4.out.trans (N5.out.bel.mono B4.out.size))
        have O5 := Lib.hid (owns_block O4.out (fun g hg => N5.out.bel.block g (hlt4 g hg).2))
        clear hlt4 B4 O4
        generalize w4.heap.size = x at N5 ⊢
        cases ok with
        | false =>
          have hT : typeS p.data.toList = none := by
            cases h : typeS p.data.toList with
            | none => rfl
            | some j => rw [h] at hv; exact absurd hv.1 Bool.noConfusion
          have HE : Hid (parseS s.data.toList = ([], k + 1, 41)) := Lib.hid (by
            rw [HPS.out, HPA.out, drop_get HCP.out]
            conv => lhs; unfold parS
            rw [hT])
          have MZ : Hid (Below w.heap.size w w5) := Lib.hid (B2.out.trans (B5.out.mono B2.out.size))
          clear hv hT
          go_wp2_with fail
          go_ret3
          exact ⟨⟨_, by rw [HE.out]; first | rfl | simp, by rw [HE.out]; exact World.ownsRow_nil _ _ _ _⟩, MZ.out⟩
        | true =>
          have hT : typeS p.data.toList = some i := by
            cases h : typeS p.data.toList with
            | none => rw [h] at hv; exact absurd hv Bool.noConfusion
            | some j => rw [h] at hv; rw [hv.2]
          have HPN : Hid (parS LL 0 [] = parS (LL.drop (k + 1)) (k + 1) (acc ++ [i])) := Lib.hid (by
            rw [HPA.out, drop_get HCP.out]
            conv => lhs; unfold parS
            rw [hT])
          clear hv hT HPA
          go_wp2_with (first | (refine wpList_rowW (by kernel_rfl) 39 _ rfl x rfl #[.int .i64 i.op, .int .i64 i.a, .int .i64 i.b, .int .i64 i.c, .int .i64 i.n] _ (N5.out.getc x) Tryd.underlying39 rfl (by kernel_rfl) ?_) | (at_builtin; refine wpList_append_own _ rfl _ _ 23 rfl w2.heap.size 39 i0 (.agg #[.int .i64 0, .int .i64 0, .int .i64 0, .int .i64 0, .int .i64 0]) 5 40 Tryd.underlying23 HI.out.1 HI.out.2.1 HI.out.2.2.1 HI.out.2.2.2 rfl (by decide) _ acc.length _ rfl (O5.out.alloc _) ⟨w5.heap.size, 0, none⟩ 1 1 [.int .i64 i.op, .int .i64 i.a, .int .i64 i.b, .int .i64 i.c, .int .i64 i.n] rfl ?c1 ?c2 ?c3 ?c4 ?c5 ?c6 ?_))
          case c1 => rfl
          case c2 => exact World.news_of_block (heap_alloc_new _ _)
          case c3 => (intro u hu; simp only [List.mem_cons, List.not_mem_nil, or_false] at hu; rcases hu with rfl | rfl | rfl | rfl | rfl <;> rfl)
          case c4 => unfold maxLen; have := HLE.out; omega
          case c5 => have := HLE.out; omega
          case c6 => have := B5.out.size; simp; omega
          intro v' w6 hown1 hgrow _
          have hlt1 := O5.out.lt
          have H5 : Hid (w6.ownsRow w2.heap.size 39 5 v' (acc ++ [i]).length ((acc ++ [i]).flatMap Ins.cells)) := Lib.hid (by rw [List.flatMap_append, List.length_append]; exact hown1)
          have H6 : Hid (Below w2.heap.size w2 w6) := Lib.hid ((B5.out.alloc B5.out.size _).grown hgrow (by have := B5.out.size; simp; omega) (fun j hj => (hlt1 j hj).1))
          have H8 : Hid ((acc ++ [i]).length = k + 1) := Lib.hid (by have := HLE.out; simp; omega)
          clear hown1 hgrow hlt1 HLE O5 B5 N5
          generalize acc ++ [i] = acc2 at H5 H8 HPN
          go_wp2_with fail
          first
            | (go_roundw
               case rel => exact ⟨k + 1, acc2, by omega, by go_num, H8, HPN, H5, H6⟩
               case measure => simp [intOf]; omega)
            | (refine ⟨?_, ?_⟩
               · (repeat apply Exists.intro)
                 refine ⟨?_, rfl⟩
                 exact ⟨k + 1, acc2, by omega, by go_num, H8, HPN, H5, H6⟩
               · simp [intOf]; omega)
      · have HE : Hid (parseS s.data.toList = (acc, 0, 0)) := Lib.hid (by
          have e1 : LL.length ≤ K := by rw [HLL.out, List.length_take]; omega
          rw [HPS.out, HPA.out, List.drop_eq_nil_of_le (by omega)]
          rfl)
        go_wp2_with fail
        go_ret3
        exact ⟨⟨_, by rw [HE.out]; rfl, by rw [HE.out]; exact HOW.out.mono B2.out.size⟩, HBW.out⟩
set_option maxRecDepth 100000 in
set_option maxHeartbeats 4000000 in
theorem parses_walk (s : ByteArray) (hs : s.size ≤ 134217728) (w : World) (hL : LaidW w) :
    Calls Tryd.prog 3 #[.string s] w fun e w' => e = .returned (.bool true) ∧ Below w.heap.size w w' := by
  have HL := Lib.hid (fun (X : World) (hb : Below w.heap.size w X) => hL.below hb)
  clear hL
  have C1 := Lib.hid (awake04 w (HL.out w (Below.refl _ _)))
  obtain ⟨P, hP⟩ : ∃ P, parseS s.data.toList = P := ⟨_, rfl⟩
  have HP := Lib.hid hP
  clear hP
  go_enter Tryd.func3, Tryd.ntmps3
  go_wp2_with fail
  refine (C1.out).mono ?_
  rintro e w1 ⟨rfl, hb1⟩
  have B1 := Lib.hid hb1
  clear hb1 C1
  have C2 := Lib.hid (parse_any s hs w1 (HL.out w1 B1.out))
  rw [HP.out] at C2
  go_wp2_with fail
  refine (C2.out).mono ?_
  rintro e w2 ⟨⟨v2, rfl, hv2⟩, hb2⟩
  have B2 : Hid (Below w.heap.size w w2) := Lib.hid (B1.out.trans (hb2.mono B1.out.size))
  have R2 := Lib.hid (rows_own hv2)
  clear hv2 hb2 C2
  have C3 := Lib.hid (rparse_any s hs w2 (HL.out w2 B2.out))
  rw [HP.out] at C3
  go_wp2_with fail
  refine (C3.out).mono ?_
  rintro e w3 ⟨⟨v3, rfl, hv3⟩, hb3⟩
  have B3 : Hid (Below w.heap.size w w3) := Lib.hid (B2.out.trans (hb3.mono B2.out.size))
  have R3 := Lib.hid (rows_own hv3)
  have R23 := Lib.hid (R2.out.lift hb3 hb3.size)
  clear hv3 hb3 C3 R2
  have C4 := Lib.hid (same04 v2 v3 P.1 _ _ w3 R23.out R3.out)
  clear R3 R23 HP
  generalize (P.2.1 : Nat) = n1
  generalize (P.2.2 : Nat) = n2
  go_wp2_with fail
  refine (C4.out).mono ?_
  rintro e w4 ⟨rfl, hb4⟩
  have B4 : Hid (Below w.heap.size w w4) := Lib.hid (B3.out.trans (hb4.mono B3.out.size))
  clear hb4 C4
  go_wp2_with fail
  go_ret
  exact ⟨by first | rfl | simp, B4.out⟩
end Go.Proofs.YtmbacegbcccdjaaDoor
