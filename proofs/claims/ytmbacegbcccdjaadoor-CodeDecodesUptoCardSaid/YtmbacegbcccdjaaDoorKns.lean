/-
  Layer 4: the document's Decode: what it computes.
  Conditions: none. (My own text.)
-/
import Derived.Test.YtmbacegbcccdjaaDoorKpa
import Derived.Test.YtmbacegbcccdjaaDoorKfr
import Derived.Test.YtmbacegbcccdjaaDoorKrd
import Derived.Deep.Onto
import Derived.Laws.OwnMore
import Derived.Deep.AppendLies
namespace Go.Proofs.YtmbacegbcccdjaaDoor
open Go.RowKit Spm
set_option linter.unusedVariables false
set_option linter.unusedSimpArgs false

open Go.Lib hiding intOf
attribute [local irreducible] wpList
theorem SrcB.stay {w w' : World} {A : Option Addr} {b : List UInt8} (h : SrcB w A b) (hb : Below w.heap.size w w') : SrcB w' A b := fun hn => by
  obtain ⟨bb, off, h1, h2⟩ := h hn
  exact ⟨bb, off, h1, fun j x hj => (hb.cell (p := ⟨bb, off + j, none⟩) (show bb < w.heap.size from block_lt_of_cell (h2 j x hj))).trans (h2 j x hj)⟩
theorem insK_part (b : List UInt8) (k : Nat) (h : 8 * k + 8 ≤ b.length) : insK ((b.drop (8 * k)).take 8) 0 = insK b k := by
  rw [← insK_drop b k]
  conv => rhs; rw [← List.take_append_drop 8 (b.drop (8 * k))]
  exact (insK_app _ _ (by rw [List.length_take, List.length_drop]; omega)).symm
theorem insRow_succ (b : List UInt8) (k : Nat) : insRow b (k + 1) = insRow b k ++ (insK b k).cells := by
  unfold insRow
  rw [List.range_succ, List.flatMap_append]
  simp
set_option maxRecDepth 100000 in
set_option maxHeartbeats 4000000 in
theorem rdecode_any (A : Option Addr) (c : Nat) (b : List UInt8) (hbl : b.length ≤ 1099511627776) (hbc : b.length ≤ c) (hcm : c ≤ maxLen) (w : World) (hs : SrcB w A b) :
    Calls Tryd.prog 18 #[.slice A b.length c] w (DecE b w) := by
  obtain ⟨n, hn⟩ : ∃ n, b.length = n := ⟨_, rfl⟩
  rw [hn] at hbl hbc ⊢
  unfold maxLen at hcm
  have HN := Lib.hid hn
  have HS := Lib.hid hs
  clear hs hn
  obtain ⟨i0, hi, hz0, hz1, hz2⟩ := info_parts ins_info
  have HI := Lib.hid (And.intro hi (And.intro hz0 (And.intro hz1 hz2)))
  clear hi hz0 hz1 hz2
  obtain ⟨R, hR⟩ : ∃ R, n % 8 = R := ⟨_, rfl⟩
  have ht : (n : Int).tmod 8 = (R : Int) := by rw [Int.tmod_eq_emod_of_nonneg (by omega)]; omega
  have ht2 : (n : Int) % 8 = (R : Int) := by omega
  by_cases h0 : R = 0
  case neg =>
    have HF : Hid (DecE b w (.returned (.tuple #[.slice none 0 0, .int .i64 40])) w) := Lib.hid ⟨.inr ⟨fun h => h0 (by have := h.1; rw [HN.out] at this; omega), rfl⟩, Below.refl _ _⟩
    have hRI : ¬ ((R : Int) = 0) := by omega
    have hRb : ((R : Int) != 0) = true := bne_iff_ne.2 hRI
    clear hR
    go_enter Tryd.func18, Tryd.ntmps18
    go_wp2_with fail
    go_ret2
    exact HF.out
  subst h0
  obtain ⟨N, hNn⟩ : ∃ N, n = 8 * N := ⟨n / 8, by omega⟩
  have HNN := Lib.hid hNn
  have HRD := Lib.hid (fun (bb off : Nat) (h : A = some ⟨bb, off, none⟩) (m : Nat) (hm : m < N) (X : World) (hX : SrcB X A b) =>
    read04 (some ⟨bb, off + 8 * m, none⟩) (c - 8 * m) ((b.drop (8 * m)).take 8) (by rw [List.length_take, List.length_drop, HN.out]; omega) (by omega) (by unfold maxLen; omega) X (fun hne => ⟨bb, off + 8 * m, rfl, fun j x hj => by
      have hj8 : j < 8 := by have := (List.getElem?_eq_some_iff.1 hj).1; rw [List.length_take] at this; omega
      have hb0 : b ≠ [] := fun e => by rw [e] at hj; simp at hj
      obtain ⟨bb', off', h1, h2⟩ := hX hb0
      rw [h] at h1
      simp only [Option.some.injEq, Addr.mk.injEq] at h1
      obtain ⟨rfl, rfl, -⟩ := h1
      rw [List.getElem?_take_of_lt hj8, List.getElem?_drop] at hj
      have := h2 (8 * m + j) x hj
      rwa [← Nat.add_assoc] at this⟩))
  have HIK := Lib.hid (fun (m : Nat) (hm : m < N) => insK_part b m (by rw [HN.out]; omega))
  clear hR hNn ht2
  go_enter Tryd.func18, Tryd.ntmps18
  go_wp2_with fail
  go_loopw [4, 5] (fun v t wr => ∃ (m K : Nat), m ≤ N ∧ Hid (K = 8 * m) ∧ t = .int .i64 K ∧ K ≤ n ∧ Hid (∀ j, j < m → mayS (insK b j) = true) ∧ Hid (wr.ownsRow w.heap.size 39 5 v m (insRow b m)) ∧ Hid (Below w.heap.size w wr)) (fun _ t _ => n - (RowKit.intOf t).toNat)
  case atStart => exact ⟨0, 0, Nat.zero_le _, Lib.hid rfl, rfl, Nat.zero_le _, Lib.hid (fun j hj => absurd hj (Nat.not_lt_zero _)), Lib.hid (World.ownsRow_nil _ _ _ _), Lib.hid (Below.refl _ _)⟩
  case round =>
    obtain ⟨m, K, hm, HK, rfl, hKn, HOK, HOW, HB⟩ := hrel
    obtain ⟨w3, hw3⟩ : ∃ w3, w3 = wr := ⟨_, rfl⟩
    rw [← hw3] at HOW HB ⊢
    clear hw3
    by_cases hmn : m < N
    · have hk8 : K + 8 ≤ n := by have := HK.out; have := HNN.out; omega
      have hkn : K < n := by omega
      obtain ⟨bb, off, hA, -⟩ := HS.out (fun e => by have := HN.out; rw [e] at this; simp at this; omega)
      have C2 := Lib.hid (HRD.out bb off hA m hmn w3 (HS.out.stay HB.out))
      have HKI := Lib.hid (HIK.out m hmn)
      rw [HKI.out, ← HK.out] at C2
      subst hA
      obtain ⟨i, hi⟩ : ∃ i, insK b m = i := ⟨_, rfl⟩
      rw [hi] at C2
      have HII := Lib.hid hi
      clear hi HKI
      have hkI : (K : Int) + 8 ≤ (n : Int) := by omega
      go_wp2_with fail
      refine (C2.out).mono ?_
      rintro e w4 ⟨he, hb⟩
      have he2 : e = .returned (.tuple #[.agg #[.int .i64 i.op, .int .i64 i.a, .int .i64 i.b, .int .i64 i.c, .int .i64 i.n], .bool (mayS i)]) := he
      subst he2
      clear he C2
      have hlt0 := HOW.out.lt
      have B4 : Hid (Below w.heap.size w w4) := Lib.hid (HB.out.trans (hb.mono HB.out.size))
      have O4 := Lib.hid (owns_block HOW.out (fun g hg => hb.block g (hlt0 g hg).2))
      clear hb hlt0 HB HOW
      have N0 := Lib.hid ((Has.start (Below.refl w4.heap.size w4) (Nat.le_refl _)).newcel 39 #[.int .i64 0, .int .i64 0, .int .i64 0, .int .i64 0, .int .i64 0])
      have N1 := Lib.hid (N0.out.rowc w4.heap.size #[.int .i64 i.op, .int .i64 i.a, .int .i64 i.b, .int .i64 i.c, .int .i64 i.n])
      go_upto_region 8 with (first | (refine wpList_store_row rfl 39 _ _ rfl w4.heap.size #[.int .i64 i.op, .int .i64 i.a, .int .i64 i.b, .int .i64 i.c, .int .i64 i.n] rfl rfl 39 #[.int .i64 0, .int .i64 0, .int .i64 0, .int .i64 0, .int .i64 0] (N0.out.getc w4.heap.size) (by kernel_rfl) rfl (by kernel_rfl) ?_))
      obtain ⟨w5, hW⟩ : ∃ w5, (w4.alloc (.cells #[.int .i64 0, .int .i64 0, .int .i64 0, .int .i64 0, .int .i64 0] 39)).setRow w4.heap.size #[.int .i64 i.op, .int .i64 i.a, .int .i64 i.b, .int .i64 i.c, .int .i64 i.n] = w5 := ⟨_, rfl⟩
      have N5 := N1
      rw [hW] at N5 ⊢
      clear hW N0 N1
      have hlt4 := O4.out.lt
      have B5 : Hid (Below w.heap.size w w5) := Lib.hid (B4.out.trans (N5.out.bel.mono B4.out.size))
      have O5 := Lib.hid (owns_block O4.out (fun g hg => N5.out.bel.block g (hlt4 g hg).2))
      clear hlt4 B4 O4
      generalize w4.heap.size = x at N5 ⊢
      cases hM : mayS i with
      | false =>
        have HF : Hid (DecE b w (.returned (.tuple #[.slice none 0 0, .int .i64 40])) w5) := Lib.hid ⟨.inr ⟨fun h => by
          have h1 := h.2 m (by rw [HN.out, HNN.out]; omega)
          rw [HII.out, hM] at h1
          exact Bool.noConfusion h1, rfl⟩, B5.out⟩
        clear hM
        go_wp2_with fail
        go_ret2
        exact HF.out
      | true =>
        have HOK2 : Hid (∀ j, j < m + 1 → mayS (insK b j) = true) := Lib.hid (fun j hj => by
          rcases Nat.lt_or_ge j m with h1 | h1
          · exact HOK.out j h1
          · obtain rfl : j = m := by omega
            rw [HII.out, hM])
        have HRS : Hid (insRow b (m + 1) = insRow b m ++ [.int .i64 i.op, .int .i64 i.a, .int .i64 i.b, .int .i64 i.c, .int .i64 i.n]) := Lib.hid (by rw [insRow_succ, HII.out]; rfl)
        clear hM HOK
        go_wp2_with (first | (refine wpList_rowW (by kernel_rfl) 39 _ rfl x rfl #[.int .i64 i.op, .int .i64 i.a, .int .i64 i.b, .int .i64 i.c, .int .i64 i.n] _ (N5.out.getc x) Tryd.underlying39 rfl (by kernel_rfl) ?_) | (at_builtin; refine wpList_append_own _ rfl _ _ 23 rfl w.heap.size 39 i0 (.agg #[.int .i64 0, .int .i64 0, .int .i64 0, .int .i64 0, .int .i64 0]) 5 40 Tryd.underlying23 HI.out.1 HI.out.2.1 HI.out.2.2.1 HI.out.2.2.2 rfl (by decide) _ m _ rfl (O5.out.alloc _) ⟨w5.heap.size, 0, none⟩ 1 1 [.int .i64 i.op, .int .i64 i.a, .int .i64 i.b, .int .i64 i.c, .int .i64 i.n] rfl ?c1 ?c2 ?c3 ?c4 ?c5 ?c6 ?_))
        case c1 => rfl
        case c2 => exact World.news_of_block (heap_alloc_new _ _)
        case c3 => (intro u hu; simp only [List.mem_cons, List.not_mem_nil, or_false] at hu; rcases hu with rfl | rfl | rfl | rfl | rfl <;> rfl)
        case c4 => unfold maxLen; have := HNN.out; omega
        case c5 => have := HNN.out; omega
        case c6 => have := B5.out.size; simp; omega
        intro v' w6 hown1 hgrow _
        have hlt1 := O5.out.lt
        have H5 : Hid (w6.ownsRow w.heap.size 39 5 v' (m + 1) (insRow b (m + 1))) := Lib.hid (by rw [HRS.out]; exact hown1)
        have H6 : Hid (Below w.heap.size w w6) := Lib.hid ((B5.out.alloc B5.out.size _).grown hgrow (by have := B5.out.size; simp; omega) (fun j hj => (hlt1 j hj).1))
        have H7 : Hid (K + 8 = 8 * (m + 1)) := Lib.hid (by have := HK.out; omega)
        clear hown1 hgrow hlt1 O5 B5 N5 HRS
        go_wp2_with fail
        first
          | (go_roundw
             case rel => exact ⟨m + 1, K + 8, by omega, H7, by go_num, by omega, HOK2, H5, H6⟩
             case measure => simp [intOf]; omega)
          | (refine ⟨?_, ?_⟩
             · (repeat apply Exists.intro)
               refine ⟨?_, rfl⟩
               exact ⟨m + 1, K + 8, by omega, H7, by go_num, by omega, HOK2, H5, H6⟩
             · simp [intOf]; omega)
    · have hmN : m = N := by omega
      have hKe : K = n := by have := HK.out; have := HNN.out; omega
      have HF : Hid (∀ v, w3.ownsRow w.heap.size 39 5 v m (insRow b m) → DecE b w (.returned (.tuple #[v, .int .i64 0])) w3) := Lib.hid (fun v hv => ⟨.inl ⟨⟨by rw [HN.out, HNN.out]; omega, fun t ht => HOK.out t (by rw [HN.out, HNN.out] at ht; omega)⟩, _, rfl, by rw [HN.out, HNN.out, show 8 * N / 8 = m by omega]; exact hv⟩, HB.out⟩)
      subst hKe
      go_wp2_with fail
      go_ret2
      exact HF.out _ HOW.out
end Go.Proofs.YtmbacegbcccdjaaDoor
