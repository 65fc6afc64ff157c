/-
  Layer 8: the document's test of a table: it answers something.
  Conditions: none. (My own text.)
-/
import Derived.Test.YtlkelfaokbdddaaImt
namespace Go.Proofs.Ytlkelfaokbdddaa
open Go.RowKit Spm
set_option linter.unusedVariables false
set_option linter.unusedSimpArgs false

theorem flat_int : ∀ l : List Int, l.flatMap intC = l.map (Value.int .i64)
  | [] => rfl
  | x :: l => by rw [List.flatMap_cons, flat_int l]; rfl
theorem RowsAt.of_ownI {α : Type} {n : Nat} {cells : α → List Value} (hc : ∀ x, (cells x).length = n) {w : World} {base : Nat} {T : TypeId} {v : Value} {l : List α} (h : w.ownsRow base T n v l.length (l.flatMap cells)) : RowsAt n cells w (fun k => v.ownBlock = some k) v l := by
  rcases h.2 with ⟨hv, hn⟩ | ⟨g, cap, cur, hv, hb, hg, hl, hm, hs, ht⟩
  · exact ⟨none, 0, by rw [hv, hn], by omega, Nat.zero_le _, fun i x hx => by rw [List.eq_nil_of_length_eq_zero hn] at hx; simp at hx⟩
  · refine ⟨some ⟨g, 0, none⟩, cap, hv, hl, hm, fun i x hx => ⟨g, 0, rfl, by rw [hv]; rfl, (Array.getElem?_eq_some_iff.1 hg).1, fun j u hu => ?_⟩⟩
    have := h.cells (g := g) (by rw [hv]; rfl) _ _ (flat_get hc l i x hx j u hu)
    rwa [Addr.add_lit, ← Nat.add_assoc] at this
theorem Has.ownedI {B : Nat} {w wr w' : World} {X : Res} [Fr X] (h : Has B w wr X) {T : TypeId} {v : Value} {l : List Int} (ho : w'.ownsRow wr.heap.size T 1 v l.length (l.map (Value.int .i64))) (hb : Below wr.heap.size wr w') : Has B w w' (Star (Rw 1 intC v l) X) :=
  h.add hb ((RowsAt.of_ownI (n := 1) (cells := intC) (fun _ => rfl) (by rw [flat_int]; exact ho)).mono fun k hk _ => (ho.lt k hk).1)
theorem Has.rwAt {α : Type} {n : Nat} {cells : α → List Value} {B : Nat} {w wr : World} {v : Value} {l : List α} {Y : Res} (h : Has B w wr (Star (Rw n cells v l) Y)) : RowsAt n cells wr (fun _ => True) v l := by
  obtain ⟨F, ⟨F1, F2, h1, _⟩, _⟩ := h.own
  exact RowsAt.mono h1 (fun _ _ _ => trivial)
theorem home08_b (s : ByteArray) (hs : s.size ≤ maxLen) (m : Int) (h0 : 1 ≤ m) (h1 : m ≤ 9223372036854775807) (w : World) : Calls Try.prog 61 #[.string s, .int .i64 m] w fun e w' => (∃ p : Int, e = .returned (.int .i64 p) ∧ 0 ≤ p ∧ p < m) ∧ Below w.heap.size w w' :=
  (home08_any s hs m h0 h1 w).mono fun e w' h => ⟨h.1, h.2 ▸ Below.refl _ _⟩
theorem stands08_b (A : Option Addr) (l : List Int) (c : Nat) (x : Int) (P : Nat → Prop) (w : World) (hr : RowsAt 1 intC w P (.slice A l.length c) l) : Calls Try.prog 60 #[.slice A l.length c, .int .i64 x] w fun e w' => (∃ n : Int, e = .returned (.int .i64 n)) ∧ Below w.heap.size w w' :=
  (stands08_any A l c x P w hr).mono fun e w' h => ⟨h.1, h.2 ▸ Below.refl _ _⟩
theorem hash02_b (s : ByteArray) (hs : s.size ≤ maxLen) (w : World) : Calls Try.prog 63 #[.string s] w fun e w' => (∃ p : Int, e = .returned (.int .u32 p) ∧ 0 ≤ p ∧ p < 4294967296) ∧ Below w.heap.size w w' :=
  (hash02_any s hs w).mono fun e w' h => ⟨h.1, h.2 ▸ Below.refl _ _⟩

set_option maxRecDepth 100000 in
set_option maxHeartbeats 4000000 in
theorem right08_any (d : ImgD) (P : Nat → Prop) (w : World) (h : ImgOk w P d) : Calls Try.prog 30 #[.agg #[.slice d.bA d.bk.length d.bC, .slice d.wA d.wd.length d.wC, .int .i64 d.sh], .slice d.yA d.sy.length d.yC] w (BoolE w) := by
  have hyl := h.sys.rows.len
  have hbl := h.bks.rows.len
  have hwl := h.wds.len
  have HWL := Lib.hid hwl
  unfold maxLen at hyl hbl hwl
  have HOK := Lib.hid (fun (wr : World) (hb : Below w.heap.size w wr) => h.stay hb)
  clear h
  have M0 := Lib.hid ((Has.start (Below.refl w.heap.size w) (Nat.le_refl _)).newcel 33 #[.slice d.bA d.bk.length d.bC, .slice d.wA d.wd.length d.wC, .int .i64 d.sh])
  go_enter Try.func30, Try.ntmps30
  go_upto_region 1 with (fail)
  obtain ⟨W, hW⟩ : ∃ W, (w.alloc (.cells #[.slice d.bA d.bk.length d.bC, .slice d.wA d.wd.length d.wC, .int .i64 d.sh] 33)) = W := ⟨_, rfl⟩
  rw [hW] at M0 ⊢
  clear hW
  generalize hB : w.heap.size = b0 at M0 HOK ⊢
  have HB := Lib.hid hB
  clear hB
  have M1 : Hid (Has b0 w W (Star (Cel b0 33 #[.slice d.bA d.bk.length d.bC, .slice d.wA d.wd.length d.wC, .int .i64 d.sh]) Emp)) := M0
  clear M0
  have i0 : W.cell? ⟨b0, 0, none⟩ = some (.slice d.bA d.bk.length d.bC) := M1.out.cellat b0 0 rfl
  have MZ := Lib.hid M1.out.bel
  by_cases v1 : (512 : Int) < (d.sy.length : Int)
  · go_wp2
    (go_ret; exact ⟨⟨_, rfl⟩, by rw [HB.out]; exact MZ.out⟩)
  by_cases v2 : (d.bk.length : Int) < 1
  · go_wp2
    (go_ret; exact ⟨⟨_, rfl⟩, by rw [HB.out]; exact MZ.out⟩)
  by_cases v3 : (512 : Int) < (d.bk.length : Int)
  · go_wp2
    (go_ret; exact ⟨⟨_, rfl⟩, by rw [HB.out]; exact MZ.out⟩)
  clear MZ
  have cf : ∀ j v, (#[.slice d.wA d.wd.length d.wC, .int .i64 d.sh] : Array Value).toList[j]? = some v → W.cell? ⟨b0, 1 + j, none⟩ = some v := fun j v hv => by
    match j, hv with
    | 0, hv => exact M1.out.cellat b0 1 hv
    | 1, hv => exact M1.out.cellat b0 2 hv
    | j + 2, hv => simp at hv
  go_wp2_with (first | (refine wpList_partW rfl 31 _ rfl b0 1 rfl #[.slice d.wA d.wd.length d.wC, .int .i64 d.sh] _ cf Try.underlying31 rfl (by kernel_rfl) ?_))
  refine (right02_any d.wA d.wd.length d.wC d.sh HWL.out W).mono ?_
  rintro e w1 ⟨⟨b1, rfl, hb1⟩, hb⟩
  have M2 := Lib.hid (M1.out.stay hb)
  have MZ := Lib.hid M2.out.bel
  clear hb hb1 cf i0 M1
  cases b1
  · go_wp2
    (go_ret; exact ⟨⟨_, rfl⟩, by rw [HB.out]; exact MZ.out⟩)
  clear MZ
  go_wp2_with fail
  refine (seen08_any d.yA d.sy d.yC P w1 (HOK.out w1 M2.out.bel).sys (by omega)).mono ?_
  rintro e w2 ⟨va, all, rfl, hown, hin, hb⟩
  have M3 : Hid (Has b0 w w2 (Star (Rw 1 intC va all) (Star (Cel b0 33 #[.slice d.bA d.bk.length d.bC, .slice d.wA d.wd.length d.wC, .int .i64 d.sh]) Emp))) := Lib.hid (M2.out.ownedI hown hb)
  have HIN := Lib.hid hin
  clear hown hin hb M2
  obtain ⟨A6, ca, rfl, hca, hcm, hrow⟩ := M3.out.rwAt
  have hal : all.length ≤ 9223372036854775807 := by unfold maxLen at hcm; omega
  clear hrow hca hcm
  go_wp2_with fail
  go_loopw [6, 7] (fun m i wr => ∃ (k : Nat) (n : Int), k ≤ d.bk.length ∧ i = .int .i64 k ∧ m = .int .i64 n ∧ Hid (Has b0 w wr (Star (Rw 1 intC (.slice A6 all.length ca) all) (Star (Cel b0 33 #[.slice d.bA d.bk.length d.bC, .slice d.wA d.wd.length d.wC, .int .i64 d.sh]) Emp)))) (fun _ i _ => d.bk.length - (intOf i).toNat)
  case atStart => exact ⟨0, 0, Nat.zero_le _, rfl, rfl, M3⟩
  case round =>
    clear M3
    obtain ⟨k, n, hk, rfl, rfl, M4⟩ := hrel
    obtain ⟨w4, hw4⟩ : ∃ w4, w4 = wr := ⟨_, rfl⟩
    rw [← hw4] at M4 ⊢
    clear hw4
    have i0 : w4.cell? ⟨b0, 0, none⟩ = some (.slice d.bA d.bk.length d.bC) := M4.out.cellat b0 0 rfl
    by_cases hkn : k < d.bk.length
    · obtain ⟨x, hx⟩ : ∃ x, d.bk[k]? = some x := ⟨_, List.getElem?_eq_getElem hkn⟩
      obtain ⟨b, off, hA, c0⟩ := (HOK.out w4 M4.out.bel).bks.rows.elem1 k x hx _ rfl
      have HX := Lib.hid (fun (wr : World) (hb : Below b0 w wr) => (HOK.out wr hb).bks.in_ x (List.mem_of_getElem? hx))
      have HAX := Lib.hid (fun (wr : World) (hb : Below b0 w wr) => (HOK.out wr hb).bks.rows.elem1 k x hx _ rfl)
      have hxl := (HX.out w4 M4.out.bel).len
      unfold maxLen at hxl
      have HA := Lib.hid hA
      rw [hA] at i0
      have MZ := Lib.hid M4.out.bel
      clear hA hx
      go_wp2_with fail
      all_goals first
      | (go_ret; exact ⟨⟨_, rfl⟩, by rw [HB.out]; exact MZ.out⟩)
      | skip
      clear MZ c0 i0
      go_loopw [8] (fun j wr => ∃ k2 : Nat, j = .int .i64 ((k2 : Int) + 1) ∧ Hid (Has b0 w wr (Star (Rw 1 intC (.slice A6 all.length ca) all) (Star (Cel b0 33 #[.slice d.bA d.bk.length d.bC, .slice d.wA d.wd.length d.wC, .int .i64 d.sh]) Emp)))) (fun j _ => x.l.length + 1 - (intOf j).toNat)
      case atStart => exact ⟨0, rfl, M4⟩
      case round =>
        clear M4
        obtain ⟨k2, rfl, M5⟩ := hrel
        obtain ⟨w5, hw5⟩ : ∃ w5, w5 = wr := ⟨_, rfl⟩
        rw [← hw5] at M5 ⊢
        clear hw5
        have i0 : w5.cell? ⟨b0, 0, none⟩ = some (.slice (some ⟨b, off, none⟩) d.bk.length d.bC) := M5.out.cellat b0 0 (by rw [← HA.out]; rfl)
        obtain ⟨b9, off9, hA9, c0⟩ := HAX.out w5 M5.out.bel
        have hbo9 : b9 = b ∧ off9 = off := by
          have := HA.out
          rw [hA9] at this
          simpa using this
        obtain ⟨rfl, rfl⟩ := hbo9
        clear hA9
        by_cases hk2n : k2 + 1 < x.l.length
        · obtain ⟨y, hy⟩ : ∃ y, x.l[k2]? = some y := ⟨_, List.getElem?_eq_getElem (by omega)⟩
          obtain ⟨z, hz⟩ : ∃ z, x.l[k2 + 1]? = some z := ⟨_, List.getElem?_eq_getElem hk2n⟩
          obtain ⟨b', off', hA', m0⟩ := (HX.out w5 M5.out.bel).elem1 k2 y hy _ rfl
          obtain ⟨b2, off2, hA2, m1⟩ := (HX.out w5 M5.out.bel).elem1 (k2 + 1) z hz _ rfl
          have hbo : b2 = b' ∧ off2 = off' := by rw [hA'] at hA2; simpa [eq_comm] using hA2
          obtain ⟨rfl, rfl⟩ := hbo
          rw [hA'] at c0
          clear hA' hA2 hy hz
          have hlt1 : (k2 : Int) + 1 < (x.l.length : Int) := by omega
          have hlt0 : (k2 : Int) < (x.l.length : Int) := by omega
          go_upto_region 14 with (fail)
          go_quiet (fail)
          rename_i nq
          have M6 := Lib.hid (M5.out.stay (below_drewN (Below.refl _ _) nq))
          have MZ := Lib.hid M6.out.bel
          clear m0 m1 c0 i0 M5
          have i1 : intOf (Value.int .i64 ((k2 : Int) + 1 + 1)) = (k2 : Int) + 1 + 1 := rfl
          have i2 : intOf (Value.int .i64 ((k2 : Int) + 1)) = (k2 : Int) + 1 := rfl
          go_wp2_with fail
          all_goals first
          | (go_ret; exact ⟨⟨_, rfl⟩, by rw [HB.out]; exact MZ.out⟩)
          | (go_roundw
             case rel => exact ⟨k2 + 1, by first | rfl | go_num | (simp; done), M6⟩
             case measure => simp [intOf]; omega)
        · have hge : ¬ ((k2 : Int) + 1 < (x.l.length : Int)) := by omega
          go_wp2_with fail
          go_roundw
          case rel => exact ⟨k + 1, _, by omega, by go_num, rfl, M5⟩
          case measure => simp [intOf]; omega
    · -- those that are seen
      have MZ := Lib.hid M4.out.bel
      have hge : ¬ ((k : Int) < (d.bk.length : Int)) := by omega
      go_wp2_with fail
      clear MZ i0 hge
      go_loopw [9] (fun i wr => ∃ k3 : Nat, k3 ≤ all.length ∧ i = .int .i64 k3 ∧ Hid (Has b0 w wr (Star (Rw 1 intC (.slice A6 all.length ca) all) (Star (Cel b0 33 #[.slice d.bA d.bk.length d.bC, .slice d.wA d.wd.length d.wC, .int .i64 d.sh]) Emp)))) (fun i _ => all.length - (intOf i).toNat)
      case atStart => exact ⟨0, Nat.zero_le _, rfl, M4⟩
      case round =>
        clear M4
        obtain ⟨k3, hk3, rfl, M5⟩ := hrel
        obtain ⟨w5, hw5⟩ : ∃ w5, w5 = wr := ⟨_, rfl⟩
        rw [← hw5] at M5 ⊢
        clear hw5
        by_cases hk3n : k3 < all.length
        · obtain ⟨z, hz⟩ : ∃ z, all[k3]? = some z := ⟨_, List.getElem?_eq_getElem hk3n⟩
          have hzr := HIN.out z (List.mem_of_getElem? hz)
          obtain ⟨j3, rfl⟩ : ∃ j3 : Nat, z = j3 := ⟨z.toNat, by omega⟩
          have hj3 : j3 < d.sy.length := by omega
          obtain ⟨x, hx⟩ : ∃ x, d.sy[j3]? = some x := ⟨_, List.getElem?_eq_getElem hj3⟩
          have hxs := ((HOK.out w5 M5.out.bel).sys.sz x (List.mem_of_getElem? hx)).1
          have HXS := Lib.hid hxs
          obtain ⟨b6, off6, hA6, hcz⟩ := M5.out.rwAt.elem1 k3 _ hz _ rfl
          obtain ⟨b8, off8, hA8, hcx⟩ := (HOK.out w5 M5.out.bel).sys.rows.elem j3 x hx
          have x0 : w5.cell? ⟨b8, off8 + j3 * 9, none⟩ = some (.string x.nm) := hcx 0 _ rfl
          subst hA6
          have HA8 := Lib.hid hA8
          have HZ := Lib.hid hz
          clear hcx hx hxs hz
          go_upto_region 19 with (fail)
          rw [hA8]
          clear hA8
          go_upto_region 20 with (fail)
          have M6 := Lib.hid (M5.out.stay (Below.refl _ _).drew)
          obtain ⟨y5, hy5⟩ : ∃ y, d.bk[0]? = some y := ⟨_, List.getElem?_eq_getElem (by omega)⟩
          obtain ⟨b5, off5, hA5, _⟩ := (HOK.out _ M6.out.bel).bks.rows.elem 0 y5 hy5
          have HA5 := Lib.hid hA5
          have c0 : w5.drew.cell? ⟨b0, 0, none⟩ = some (.slice (some ⟨b5, off5, none⟩) d.bk.length d.bC) := M6.out.cellat b0 0 (by rw [← hA5]; rfl)
          have c2 : w5.drew.cell? ⟨b6, off6 + k3 * 1, none⟩ = some (.int .i64 (j3 : Int)) := by
            obtain ⟨b7, off7, hA7, hc7⟩ := M6.out.rwAt.elem k3 _ HZ.out
            simp only [Option.some.injEq, Addr.mk.injEq, and_true] at hA7
            obtain ⟨rfl, rfl⟩ := hA7
            exact hc7 0 _ rfl
          have cf : ∀ j v, (#[.slice d.wA d.wd.length d.wC, .int .i64 d.sh] : Array Value).toList[j]? = some v → w5.drew.cell? ⟨b0, 1 + j, none⟩ = some v := fun j v hv => by
            match j, hv with
            | 0, hv => exact M6.out.cellat b0 1 hv
            | 1, hv => exact M6.out.cellat b0 2 hv
            | j + 2, hv => simp at hv
          clear hA5 hy5 hcz x0
          refine wp_region_noPanic ?_
          refine wp_region_held_drew (S := SB w5.drew) (by kernel_rfl) (Below.refl _ _) ?_
          intro hS
          refine takeD (i := 0) (v := .pointer (some ⟨b0, 0, none⟩)) 95 rfl (by kernel_rfl) (by kernel_rfl) (by kernel_rfl) (by kernel_rfl) (fun _ _ _ h => h) (yS_pure (by kernel_rfl) (fun w => by kernel_rfl)) hS ?_
          refine takeD (i := 1) 96 rfl (by kernel_rfl) (by kernel_rfl) (by kernel_rfl) (by kernel_rfl) (fun _ _ _ h => h) (yS_cell (by kernel_rfl) 28 _ rfl b0 (0) (by kernel_rfl) (.slice (some ⟨b5, off5, none⟩) d.bk.length d.bC) c0 _ Try.underlying28 rfl) hS ?_
          refine takeD (i := 2) (v := .string x.nm) 97 rfl (by kernel_rfl) (by kernel_rfl) (by kernel_rfl) (by kernel_rfl) (fun _ _ _ h => h) (yS_pure (by kernel_rfl) (fun w => by kernel_rfl)) hS ?_
          refine takeD (i := 3) (v := .pointer (some ⟨b0, 0, none⟩)) 98 rfl (by kernel_rfl) (by kernel_rfl) (by kernel_rfl) (by kernel_rfl) (fun _ _ _ h => h) (yS_pure (by kernel_rfl) (fun w => by kernel_rfl)) hS ?_
          refine takeD (i := 4) 99 rfl (by kernel_rfl) (by kernel_rfl) (by kernel_rfl) (by kernel_rfl) (fun _ _ _ h => h) (yS_cell (by kernel_rfl) 28 _ rfl b0 (0) (by kernel_rfl) (.slice (some ⟨b5, off5, none⟩) d.bk.length d.bC) c0 _ Try.underlying28 rfl) hS ?_
          refine takeD (i := 5) (v := .int .i64 d.bk.length) 100 rfl (by kernel_rfl) (by kernel_rfl) (by kernel_rfl) (by kernel_rfl) (fun _ _ _ h => h) (yS_pure (by kernel_rfl) (fun w => by kernel_rfl)) hS ?_
          refine takeD (i := 9) (v := .slice (some ⟨b6, off6, none⟩) all.length ca) 104 rfl (by kernel_rfl) (by kernel_rfl) (by kernel_rfl) (by kernel_rfl) (fun _ _ _ h => h) (yS_pure (by kernel_rfl) (fun w => by kernel_rfl)) hS ?_
          refine takeD (i := 10) (v := .int .i64 k3) 105 rfl (by kernel_rfl) (by kernel_rfl) (by kernel_rfl) (by kernel_rfl) (fun _ _ _ h => h) (yS_pure (by kernel_rfl) (fun w => by kernel_rfl)) hS ?_
          refine takeD (i := 11) 106 rfl (by kernel_rfl) (by kernel_rfl) (by kernel_rfl) (by kernel_rfl) (fun _ _ _ h => h) (yS_sl (by kernel_rfl) _ _ rfl b6 (off6) all.length ca k3 1 (by kernel_rfl) (by kernel_rfl) Try.underlying36 (by kernel_rfl) hk3n) hS ?_
          refine takeD (i := 12) 107 rfl (by kernel_rfl) (by kernel_rfl) (by kernel_rfl) (by kernel_rfl) (fun _ _ _ h => h) (yS_cell (by kernel_rfl) 3 _ rfl b6 (off6 + k3 * 1) (by kernel_rfl) (.int .i64 (j3 : Int)) c2 _ Try.underlying3 rfl) hS ?_
          refine callD (i := 6) 101 (by kernel_rfl) rfl (by kernel_rfl) (by kernel_rfl) _ _ _ rfl _ (by kernel_rfl) ((home08_b x.nm HXS.out d.bk.length (by omega) (by omega) _).mono ?_)
          rintro e X1 ⟨⟨p, rfl, hp0, hp1⟩, hb1⟩
          have hS1 : SB w5.drew X1 := hS.trans (hb1.mono hS.size)
          clear hb1
          refine ⟨_, rfl, hS1, ?_⟩
          clear hS
          have hS := hS1
          clear hS1
          obtain ⟨j, rfl⟩ : ∃ j : Nat, p = j := ⟨p.toNat, by omega⟩
          have hjn : j < d.bk.length := by omega
          obtain ⟨y, hy⟩ : ∃ y, d.bk[j]? = some y := ⟨_, List.getElem?_eq_getElem hjn⟩
          obtain ⟨b9, off9, hA9, hc9⟩ := (HOK.out _ M6.out.bel).bks.rows.elem j y hy
          have hbo9 : b9 = b5 ∧ off9 = off5 := by
            have := HA5.out
            rw [hA9] at this
            simpa using this
          obtain ⟨rfl, rfl⟩ := hbo9
          have c1 : w5.drew.cell? ⟨b9, off9 + j * 1, none⟩ = some (.slice y.A y.l.length y.c) := hc9 0 _ rfl
          have HYM := Lib.hid (List.mem_of_getElem? hy)
          clear hc9 hA9 hy
          refine takeD (i := 7) 102 rfl (by kernel_rfl) (by kernel_rfl) (by kernel_rfl) (by kernel_rfl) (fun _ _ _ h => h) (yS_sl (by kernel_rfl) _ _ rfl b9 (off9) d.bk.length d.bC j 1 (by kernel_rfl) (by kernel_rfl) Try.underlying28 (by kernel_rfl) hjn) hS ?_
          refine takeD (i := 8) 103 rfl (by kernel_rfl) (by kernel_rfl) (by kernel_rfl) (by kernel_rfl) (fun _ _ _ h => h) (yS_cell (by kernel_rfl) 36 _ rfl b9 (off9 + j * 1) (by kernel_rfl) (.slice y.A y.l.length y.c) c1 _ Try.underlying36 rfl) hS ?_
          refine callD (i := 13) 108 (by kernel_rfl) rfl (by kernel_rfl) (by kernel_rfl) _ _ _ rfl _ (by kernel_rfl) ((stands08_b y.A y.l y.c (j3 : Int) P _ ((HOK.out _ (M6.out.bel.trans (hS.mono M6.out.le))).bks.in_ y HYM.out)).mono ?_)
          rintro e X2 ⟨⟨n1, rfl⟩, hb2⟩
          have hS2 : SB w5.drew X2 := hS.trans (hb2.mono hS.size)
          clear hb2
          refine ⟨_, rfl, hS2, ?_⟩
          clear hS
          have hS := hS2
          clear hS2
          obtain ⟨bb, hbb⟩ : ∃ bb, (n1 != 1) = bb := ⟨_, rfl⟩
          refine takeD (i := 14) (v := .bool bb) 109 rfl (by kernel_rfl) (by kernel_rfl) (by kernel_rfl) (by kernel_rfl) (fun _ _ _ h => h) (yS_pure (by kernel_rfl) (fun w => run_val (show _ = Result.ok (Next.value (.bool (n1 != 1))) w by kernel_rfl) (by rw [hbb]))) hS ?_
          refine takeD (i := 15) (v := .bool bb) 110 rfl (by kernel_rfl) (by kernel_rfl) (by kernel_rfl) (by kernel_rfl) (fun _ _ _ h => h) (yS_pure (by kernel_rfl) (fun w => by kernel_rfl)) hS ?_
          clear hbb
          cases bb
          case' false =>
            refine takeD (i := 16) (v := .pointer (some ⟨b0, 1, none⟩)) 111 rfl (by kernel_rfl) (by kernel_rfl) (by kernel_rfl) (by kernel_rfl) (fun _ _ _ h => h) (yS_pure (by kernel_rfl) (fun w => by kernel_rfl)) hS ?_
            refine takeD (i := 17) 112 rfl (by kernel_rfl) (by kernel_rfl) (by kernel_rfl) (by kernel_rfl) (fun _ _ _ h => h) (yS_part (by kernel_rfl) 31 _ rfl b0 (1) (by kernel_rfl) #[.slice d.wA d.wd.length d.wC, .int .i64 d.sh] _ cf Try.underlying31 rfl (by kernel_rfl)) hS ?_
            refine takeD (i := 18) (v := .string x.nm) 113 rfl (by kernel_rfl) (by kernel_rfl) (by kernel_rfl) (by kernel_rfl) (fun _ _ _ h => h) (yS_pure (by kernel_rfl) (fun w => by kernel_rfl)) hS ?_
            refine callD (i := 19) 114 (by kernel_rfl) rfl (by kernel_rfl) (by kernel_rfl) _ _ _ rfl _ (by kernel_rfl) ((hash02_b x.nm HXS.out _).mono ?_)
            rintro e X1 ⟨⟨hh, rfl, hh0, hh1⟩, hb1⟩
            have hS1 : SB w5.drew X1 := hS.trans (hb1.mono hS.size)
            clear hb1
            refine ⟨_, rfl, hS1, ?_⟩
            clear hS
            have hS := hS1
            clear hS1
            refine callD (i := 20) 115 (by kernel_rfl) rfl (by kernel_rfl) (by kernel_rfl) _ _ _ rfl _ (by kernel_rfl) ((lacks02_any d.wA d.wd d.wC d.sh hh P _ (HOK.out _ (M6.out.bel.trans (hS.mono M6.out.le))).wds hh0 hh1).mono ?_)
            rintro e X2 ⟨⟨b7, rfl⟩, hb2⟩
            have hS2 : SB w5.drew X2 := hS.trans (hb2.mono hS.size)
            clear hb2
            refine ⟨_, rfl, hS2, ?_⟩
            clear hS
            have hS := hS2
            clear hS2
            refine takeD (i := 21) (v := .bool b7) 116 rfl (by kernel_rfl) (by kernel_rfl) (by kernel_rfl) (by kernel_rfl) (fun _ _ _ h => h) (yS_pure (by kernel_rfl) (fun w => by kernel_rfl)) hS ?_
            refine wpAnyH_done (by kernel_rfl) ?_ _
            refine NoPanic.normal ?_
            simp only [Act.put, List.setIfInBounds_toArray, List.set_cons_succ, List.set_cons_zero]
          case' true =>
            refine takeD (i := 16) (v := undef) 111 rfl (by kernel_rfl) (by kernel_rfl) (by kernel_rfl) (by kernel_rfl) (fun _ _ _ h => h) (.inr ⟨by kernel_rfl, rfl⟩) hS ?_
            refine takeD (i := 17) (v := undef) 112 rfl (by kernel_rfl) (by kernel_rfl) (by kernel_rfl) (by kernel_rfl) (fun _ _ _ h => h) (.inr ⟨by kernel_rfl, rfl⟩) hS ?_
            refine takeD (i := 18) (v := undef) 113 rfl (by kernel_rfl) (by kernel_rfl) (by kernel_rfl) (by kernel_rfl) (fun _ _ _ h => h) (.inr ⟨by kernel_rfl, rfl⟩) hS ?_
            refine takeD (i := 19) (v := undef) 114 rfl (by kernel_rfl) (by kernel_rfl) (by kernel_rfl) (by kernel_rfl) (fun _ _ _ h => h) (.inr ⟨by kernel_rfl, rfl⟩) hS ?_
            refine takeD (i := 20) (v := undef) 115 rfl (by kernel_rfl) (by kernel_rfl) (by kernel_rfl) (by kernel_rfl) (fun _ _ _ h => h) (.inr ⟨by kernel_rfl, rfl⟩) hS ?_
            refine takeD (i := 21) (v := .bool true) 116 rfl (by kernel_rfl) (by kernel_rfl) (by kernel_rfl) (by kernel_rfl) (fun _ _ _ h => h) (yS_pure (by kernel_rfl) (fun w => by kernel_rfl)) hS ?_
            refine wpAnyH_done (by kernel_rfl) ?_ _
            refine NoPanic.normal ?_
            simp only [Act.put, List.setIfInBounds_toArray, List.set_cons_succ, List.set_cons_zero]
          all_goals
            rw [← HA8.out]
            have M7 := Lib.hid (M6.out.stay hS)
            have MZ := Lib.hid M7.out.bel
            clear hS c0 c1 c2 cf M6 M5
          case' false =>
            cases b7
            case' true =>
              go_wp2
              (go_ret; exact ⟨⟨_, rfl⟩, by rw [HB.out]; exact MZ.out⟩)
          case true =>
            go_wp2
            (go_ret; exact ⟨⟨_, rfl⟩, by rw [HB.out]; exact MZ.out⟩)
          clear MZ
          go_wp2_with fail
          go_roundw
          case rel => exact ⟨k3 + 1, by omega, by go_num, M7⟩
          case measure => simp [intOf]; omega
        · have MZ := Lib.hid M5.out.bel
          go_wp2
          (go_ret; exact ⟨⟨_, rfl⟩, by rw [HB.out]; exact MZ.out⟩)
end Go.Proofs.Ytlkelfaokbdddaa
