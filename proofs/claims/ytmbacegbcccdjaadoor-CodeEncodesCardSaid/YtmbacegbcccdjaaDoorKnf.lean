/-
  Layer 4: the program's Parse: what it computes.
  Conditions: none. (My own text.)
-/
import Derived.Test.YtmbacegbcccdjaaDoorKne
import Derived.Test.YtmbacegbcccdjaaDoorCdf
import Derived.Deep.Onto
import Derived.Laws.OwnMore
import Derived.Deep.AppendLies
namespace Go.Proofs.YtmbacegbcccdjaaDoor
open Go.RowKit Spm
set_option linter.unusedVariables false
set_option linter.unusedSimpArgs false

open Go.Lib hiding intOf
attribute [local irreducible] wpList
/-- The instructions of some lines, from the k-th on. -/
def parS : List (List UInt8) → Nat → List Ins → List Ins × Nat × Nat
  | [], _, acc => (acc, 0, 0)
  | p :: r, k, acc => match typeS p with
    | some i => parS r (k + 1) (acc ++ [i])
    | none => ([], k + 1, 41)
def trimS (l : List UInt8) : List UInt8 := trimSuffix l [10]
/-- The instructions of a text. -/
def parseS (l : List UInt8) : List Ins × Nat × Nat := if l = [] then ([], 0, 0) else parS (cutS 10 (trimS l)) 0 []
def ParE (P : List Ins × Nat × Nat) (w : World) (e : Ending) (w' : World) : Prop := (∃ v, e = .returned (.tuple #[v, .int .i64 P.2.1, .int .i64 P.2.2]) ∧ w'.ownsRow w.heap.size 39 5 v P.1.length (P.1.flatMap Ins.cells)) ∧ Below w.heap.size w w'
set_option maxRecDepth 100000 in
set_option maxHeartbeats 4000000 in
theorem parse_any (s : ByteArray) (hs : s.size ≤ 134217728) (w : World) (hL : LaidW w) : Calls Tryd.prog 12 #[.string s] w (ParE (parseS s.data.toList) w) := by
  have HL := Lib.hid (fun (X : World) (hb : Below w.heap.size w X) => hL.below hb)
  clear hL
  obtain ⟨i0, hi, hz0, hz1, hz2⟩ := info_parts ins_info
  have HI := Lib.hid (And.intro hi (And.intro hz0 (And.intro hz1 hz2)))
  clear hi hz0 hz1 hz2
  by_cases hs0 : s = ⟨#[]⟩
  · subst hs0
    have HE : Hid (parseS (⟨#[]⟩ : ByteArray).data.toList = ([], 0, 0)) := Lib.hid rfl
    clear HI HL
    go_enter Tryd.func12, Tryd.ntmps12
    go_wp2
    go_ret3
    exact ⟨⟨_, by rw [HE.out]; rfl, by rw [HE.out]; exact World.ownsRow_nil _ _ _ _⟩, Below.refl _ _⟩
  have hsl : ¬ s.data.toList = [] := fun e => hs0 (by cases s; simp only at e ⊢; congr 1; simpa using e)
  have hpb : ¬ s.toList = [] := by rw [toList_data]; exact hsl
  have hpi : s.toList.isEmpty = false := by rw [toList_data]; cases h : s.data.toList with | nil => exact absurd h hsl | cons a b => rfl
  obtain ⟨T, hT⟩ : ∃ T : ByteArray, T = ⟨(trimSuffix s.data.toList [10]).toArray⟩ := ⟨_, rfl⟩
  have hTl : T.data.toList = trimS s.data.toList := by rw [hT]; unfold trimS; simp
  have hTs : T.size ≤ 134217728 := by
    have e1 : T.size = T.data.toList.length := size_eq T
    have e2 := trimSuffix_le s.data.toList [10]
    have e3 := size_eq s
    rw [hTl] at e1
    unfold trimS at e1
    omega
  have HPS : Hid (parseS s.data.toList = parS (cutS 10 T.data.toList) 0 []) := Lib.hid (by unfold parseS; rw [if_neg hsl, hTl])
  have C0 : Hid (Calls Tryd.prog 27 #[.string s, .string ⟨#[10]⟩] w fun e w' => e = .returned (.string T) ∧ w' = w) := Lib.hid (by rw [hT]; exact Tryd.strings_TrimSuffix s ⟨#[10]⟩ w (by omega))
  obtain ⟨m, hm⟩ := (HL.out w (Below.refl _ _)).ml
  have C1 := Lib.hid (Tryd.strings_Split T ⟨#[10]⟩ m w (by omega) hm (by decide))
  have HPC := Lib.hid (split_cut 10 T)
  have HLN := Lib.hid (splitB_all ⟨#[10]⟩ (by decide) 0 (countB T ⟨#[10]⟩) T rfl)
  have hcb := countB_le ⟨#[10]⟩ (by decide) T.size T (Nat.le_refl _)
  clear hm hT hTl hsl
  obtain ⟨PL, hPL⟩ : ∃ PL, splitB ⟨#[10]⟩ 0 (countB T ⟨#[10]⟩) T = PL := ⟨_, rfl⟩
  rw [hPL] at C1 HPC HLN
  clear hPL
  obtain ⟨N, hN⟩ : ∃ N, countB T ⟨#[10]⟩ + 1 = N := ⟨_, rfl⟩
  have hNle : N ≤ 134217729 := by omega
  rw [hN] at C1 HLN
  clear hN hcb
  have M0 := Lib.hid ((Has.start (Below.refl w.heap.size w) (Nat.le_refl _)).newcel 9 (PL.map Value.string).toArray)
  go_enter Tryd.func12, Tryd.ntmps12
  go_wp2_with fail
  refine (C0.out).mono ?_
  rintro e w1 ⟨rfl, hw1⟩
  obtain rfl := hw1.symm
  clear C0
  go_wp2_with fail
  refine (C1.out).mono ?_
  rintro e w2 ⟨rfl, hw2⟩
  have hql : w.heap.size < w2.heap.size := by rw [hw2]; simp
  rw [← hw2] at M0
  clear hw2 C1
  generalize hq : w.heap.size = q at M0 HL hql ⊢
  have HQ := Lib.hid hq
  have HQL := Lib.hid hql
  clear hq hql hpb hpi hs0
  go_wp2_with fail
  go_loopw [5, 16] (fun v i wr => ∃ (k : Nat) (acc : List Ins), k ≤ N ∧ i = .int .i64 k ∧ Hid (acc.length = k) ∧ Hid (parS (cutS 10 T.data.toList) 0 [] = parS ((cutS 10 T.data.toList).drop k) k acc) ∧ Hid (wr.ownsRow w2.heap.size 39 5 v acc.length (acc.flatMap Ins.cells)) ∧ Hid (Below w2.heap.size w2 wr)) (fun _ i _ => N - (intOf i).toNat)
  case atStart => exact ⟨0, [], Nat.zero_le _, rfl, Lib.hid rfl, Lib.hid rfl, Lib.hid (World.ownsRow_nil _ _ _ _), Lib.hid (Below.refl _ _)⟩
  case round =>
    obtain ⟨k, acc, hk, rfl, HLE, HPA, HOW, HB⟩ := hrel
    obtain ⟨w3, hw3⟩ : ∃ w3, w3 = wr := ⟨_, rfl⟩
    rw [← hw3] at HOW HB ⊢
    clear hw3
    have HBW : Hid (Below q w w3) := Lib.hid (M0.out.bel.trans (HB.out.mono (Nat.le_of_lt HQL.out)))
    by_cases hkn : k < N
    · obtain ⟨p, hp⟩ : ∃ p, PL[k]? = some p := ⟨_, List.getElem?_eq_getElem (by have := HLN.out; omega)⟩
      have hcp : (cutS 10 T.data.toList)[k]? = some p.data.toList := by rw [← HPC.out]; simp [hp]
      have qk : w3.cell? ⟨q, k, none⟩ = some (.string p) := (HB.out.cell (p := ⟨q, k, none⟩) HQL.out).trans (M0.out.cellat q k (by simp [hp]))
      have hps : p.size ≤ 134217728 := by
        have e2 := cutS_sum 10 T.data.toList _ (List.mem_of_getElem? hcp)
        have e3 := size_eq p
        have e4 := size_eq T
        omega
      have C2 := Lib.hid (line_any p hps w3 (HL.out w3 HBW.out))
      have HCP := Lib.hid hcp
      have hkI : (k : Int) < (N : Int) := by omega
      clear hp hcp hps HBW
      go_wp2_with fail
      refine (C2.out).mono ?_
      rintro e w4 ⟨⟨i, ok, he, hv⟩, hb⟩
      have he2 : e = .returned (.tuple #[.agg #[.int .i64 i.op, .int .i64 i.a, .int .i64 i.b, .int .i64 i.c, .int .i64 i.n], .bool ok]) := he
      subst he2
      clear he C2 qk
      have hlt0 := HOW.out.lt
      have B4 : Hid (Below w2.heap.size w2 w4) := Lib.hid (HB.out.trans (hb.mono HB.out.size))
      have O4 := Lib.hid (owns_block HOW.out (fun g hg => hb.block g (hlt0 g hg).2))
      clear hb hlt0 HB HOW
      have N0 := Lib.hid ((Has.start (Below.refl w4.heap.size w4) (Nat.le_refl _)).newcel 39 #[.int .i64 0, .int .i64 0, .int .i64 0, .int .i64 0, .int .i64 0])
      have N1 := Lib.hid (N0.out.rowc w4.heap.size #[.int .i64 i.op, .int .i64 i.a, .int .i64 i.b, .int .i64 i.c, .int .i64 i.n])
      go_upto_region 8 with (first | (refine wpList_store_row rfl 39 _ _ rfl w4.heap.size #[.int .i64 i.op, .int .i64 i.a, .int .i64 i.b, .int .i64 i.c, .int .i64 i.n] rfl rfl 39 #[.int .i64 0, .int .i64 0, .int .i64 0, .int .i64 0, .int .i64 0] (N0.out.getc w4.heap.size) (by kernel_rfl) rfl (by kernel_rfl) ?_))
      obtain ⟨w5, hW⟩ : ∃ w5, (w4.alloc (.cells #[.int .i64 0, .int .i64 0, .int .i64 0, .int .i64 0, .int .i64 0] 39)).setRow w4.heap.size #[.int .i64 i.op, .int .i64 i.a, .int .i64 i.b, .int .i64 i.c, .int .i64 i.n] = w5 := ⟨_, rfl⟩
      have N5 := N1
      rw [hW] at N5 ⊢
      clear hW N0 N1
      have hlt4 := O4.out.lt
      have B5 : Hid (Below w2.heap.size w2 w5) := Lib.hid (B4.out.trans (N5.out.bel.mono B4.out.size))
      have O5 := Lib.hid (owns_block O4.out (fun g hg => N5.out.bel.block g (hlt4 g hg).2))
      clear hlt4 B4 O4
      generalize w4.heap.size = x at N5 ⊢
      cases ok with
      | false =>
        have hT : typeS p.data.toList = none := by
          cases h : typeS p.data.toList with
          | none => rfl
          | some j => rw [h] at hv; exact absurd hv.1 Bool.noConfusion
        have HE : Hid (parseS s.data.toList = ([], k + 1, 41)) := Lib.hid (by
          rw [HPS.out, HPA.out, drop_get HCP.out]
          conv => lhs; unfold parS
          rw [hT])
        have MZ : Hid (Below q w w5) := Lib.hid (M0.out.bel.trans (B5.out.mono (Nat.le_of_lt HQL.out)))
        clear hv hT
        go_wp2_with fail
        go_ret3
        exact ⟨⟨_, by rw [HE.out]; first | rfl | simp, by rw [HE.out]; exact World.ownsRow_nil _ _ _ _⟩, by rw [HQ.out]; exact MZ.out⟩
      | true =>
        have hT : typeS p.data.toList = some i := by
          cases h : typeS p.data.toList with
          | none => rw [h] at hv; exact absurd hv Bool.noConfusion
          | some j => rw [h] at hv; rw [hv.2]
        have HPN : Hid (parS (cutS 10 T.data.toList) 0 [] = parS ((cutS 10 T.data.toList).drop (k + 1)) (k + 1) (acc ++ [i])) := Lib.hid (by
          rw [HPA.out, drop_get HCP.out]
          conv => lhs; unfold parS
          rw [hT])
        clear hv hT HPA
        go_wp2_with (first | (refine wpList_rowW (by kernel_rfl) 39 _ rfl x rfl #[.int .i64 i.op, .int .i64 i.a, .int .i64 i.b, .int .i64 i.c, .int .i64 i.n] _ (N5.out.getc x) Tryd.underlying39 rfl (by kernel_rfl) ?_) | (at_builtin; refine wpList_append_own _ rfl _ _ 23 rfl w2.heap.size 39 i0 (.agg #[.int .i64 0, .int .i64 0, .int .i64 0, .int .i64 0, .int .i64 0]) 5 40 Tryd.underlying23 HI.out.1 HI.out.2.1 HI.out.2.2.1 HI.out.2.2.2 rfl (by decide) _ acc.length _ rfl (O5.out.alloc _) ⟨w5.heap.size, 0, none⟩ 1 1 [.int .i64 i.op, .int .i64 i.a, .int .i64 i.b, .int .i64 i.c, .int .i64 i.n] rfl ?c1 ?c2 ?c3 ?c4 ?c5 ?c6 ?_))
        case c1 => rfl
        case c2 => exact World.news_of_block (heap_alloc_new _ _)
        case c3 => (intro u hu; simp only [List.mem_cons, List.not_mem_nil, or_false] at hu; rcases hu with rfl | rfl | rfl | rfl | rfl <;> rfl)
        case c4 => unfold maxLen; have := HLE.out; omega
        case c5 => have := HLE.out; omega
        case c6 => have := B5.out.size; simp; omega
        intro v' w6 hown1 hgrow _
        have hlt1 := O5.out.lt
        have H5 : Hid (w6.ownsRow w2.heap.size 39 5 v' (acc ++ [i]).length ((acc ++ [i]).flatMap Ins.cells)) := Lib.hid (by rw [List.flatMap_append, List.length_append]; exact hown1)
        have H6 : Hid (Below w2.heap.size w2 w6) := Lib.hid ((B5.out.alloc B5.out.size _).grown hgrow (by have := B5.out.size; simp; omega) (fun j hj => (hlt1 j hj).1))
        have H8 : Hid ((acc ++ [i]).length = k + 1) := Lib.hid (by have := HLE.out; simp; omega)
        clear hown1 hgrow hlt1 HLE O5 B5 N5
        generalize acc ++ [i] = acc2 at H5 H8 HPN
        go_wp2_with fail
        first
          | (go_roundw
             case rel => exact ⟨k + 1, acc2, by omega, by go_num, H8, HPN, H5, H6⟩
             case measure => simp [intOf]; omega)
          | (refine ⟨?_, ?_⟩
             · (repeat apply Exists.intro)
               refine ⟨?_, rfl⟩
               exact ⟨k + 1, acc2, by omega, by go_num, H8, HPN, H5, H6⟩
             · simp [intOf]; omega)
    · have HE : Hid (parseS s.data.toList = (acc, 0, 0)) := Lib.hid (by
        have e1 := congrArg List.length HPC.out
        rw [List.length_map] at e1
        have e2 := HLN.out
        rw [HPS.out, HPA.out, List.drop_eq_nil_of_le (by omega)]
        rfl)
      go_wp2_with fail
      go_ret3
      exact ⟨⟨_, by rw [HE.out]; rfl, by rw [HE.out]; exact HOW.out.mono (by rw [HQ.out]; exact Nat.le_of_lt HQL.out)⟩, by rw [HQ.out]; exact HBW.out⟩
end Go.Proofs.YtmbacegbcccdjaaDoor
