/-
  Layer 9: the document's test of an image's segments: where it says yes they may be.
  Conditions: none. (My own text.)
-/
import Derived.Test.YtlkelfaokbdddaaImi
import Derived.Test.YtlkelfaokbdddaaImv
namespace Go.Proofs.Ytlkelfaokbdddaa
open Go.RowKit Spm
set_option linter.unusedVariables false
set_option linter.unusedSimpArgs false

def SegE (l : List Sg) (w : World) (e : Ending) (w' : World) : Prop := (∃ b, e = .returned (.bool b) ∧ (b = true → SegsOk l)) ∧ Below w.heap.size w w'
/-- The first ones may be. -/
structure Upto (l : List Sg) (k : Nat) : Prop where
  each : ∀ j s, j < k → l[j]? = some s → SgGood s
  cons : ∀ j s t, j + 1 < k → l[j]? = some s → l[j + 1]? = some t → s.at_ + up s.sz ≤ t.at_
theorem Upto.zero (l : List Sg) : Upto l 0 := ⟨fun j s h => absurd h (Nat.not_lt_zero _), fun j s t h => absurd h (Nat.not_lt_zero _)⟩
theorem Upto.one {l : List Sg} {s : Sg} (hs : l[0]? = some s) (hg : SgGood s) : Upto l 1 :=
  ⟨fun j t hj ht => by obtain rfl : j = 0 := by omega
                       rw [hs] at ht; obtain rfl : s = t := by simpa using ht
                       exact hg, fun j s t h => by omega⟩
theorem Upto.next {l : List Sg} {k : Nat} {t s : Sg} (h : Upto l (k + 1)) (ht : l[k]? = some t) (hs : l[k + 1]? = some s) (hg : SgGood s) (hc : up (t.at_ + t.sz) ≤ s.at_) : Upto l (k + 2) :=
  ⟨fun j x hj hx => by
    rcases Nat.lt_or_ge j (k + 1) with h1 | h1
    · exact h.each j x h1 hx
    · obtain rfl : j = k + 1 := by omega
      rw [hs] at hx; obtain rfl : s = x := by simpa using hx
      exact hg, fun j x y hj hx hy => by
    rcases Nat.lt_or_ge (j + 1) (k + 1) with h1 | h1
    · exact h.cons j x y h1 hx hy
    · obtain rfl : j = k := by omega
      rw [ht] at hx; obtain rfl : t = x := by simpa using hx
      rw [hs] at hy; obtain rfl : s = y := by simpa using hy
      have := (h.each j t (by omega) ht).al
      unfold up at hc ⊢
      omega⟩
theorem Upto.all {l : List Sg} (h : Upto l l.length) (h1 : l ≠ []) (h8 : l.length ≤ 8) : SegsOk l := by
  refine ⟨h1, h8, fun s hs => ?_, ?_⟩
  · obtain ⟨i, hi⟩ := List.mem_iff_getElem?.1 hs
    exact h.each i s (List.getElem?_eq_some_iff.1 hi).1 hi
  · have key : ∀ (d i : Nat) (s t : Sg), l[i]? = some s → l[i + d + 1]? = some t → s.at_ + up s.sz ≤ t.at_ := fun d => by
      induction d with
      | zero =>
        intro i s t hs ht
        exact h.cons i s t (List.getElem?_eq_some_iff.1 ht).1 hs ht
      | succ d ih =>
        intro i s t hs ht
        have hlt := (List.getElem?_eq_some_iff.1 ht).1
        obtain ⟨u, hu⟩ : ∃ u, l[i + d + 1]? = some u := ⟨_, List.getElem?_eq_getElem (by omega)⟩
        have e1 := ih i s u hs hu
        have e2 := h.cons (i + d + 1) u t (by omega) hu ht
        have e3 := up_ge u.sz (h.each _ u (by omega) hu).s0
        omega
    rw [List.pairwise_iff_getElem]
    intro i j hi hj hij
    have := key (j - i - 1) i l[i] l[j] (List.getElem?_eq_getElem hi) (by rw [show i + (j - i - 1) + 1 = j by omega]; exact List.getElem?_eq_getElem hj)
    exact this
theorem up09_b (n : Int) (h0 : 0 ≤ n) (h1 : n ≤ 1048576) (w : World) : Calls Try.prog 55 #[.int .i64 n] w fun e w' => e = .returned (.int .i64 (up n)) ∧ Below w.heap.size w w' :=
  (up09_any n h0 h1 w).mono fun e w' h => ⟨h.1, h.2 ▸ Below.refl _ _⟩
attribute [local irreducible] wpList
set_option maxRecDepth 100000 in
set_option maxHeartbeats 4000000 in
theorem segments09_any (d : ImgD) (P : Nat → Prop) (w : World) (h : ImgOk w P d) : Calls Try.prog 28 #[.agg (imgD d)] w (SegE d.sl w) := by
  have HOK := Lib.hid (fun (wr : World) (hb : Below w.heap.size w wr) => h.stay hb)
  clear h
  rw [show imgD d = #[.string d.nm, .int .i64 d.fl, .slice d.sA d.sl.length d.sC, .slice d.nA d.nd.length d.nC, .slice d.rA d.rp.length d.rC, .slice d.yA d.sy.length d.yC, .slice d.bA d.bk.length d.bC, .slice d.wA d.wd.length d.wC, .int .i64 d.sh, .slice d.lA d.rl.length d.lC, .slice d.tA d.st.length d.tC, .slice d.iA d.ini.length d.iC, .slice d.fA d.fin.length d.fC, .slice d.xA d.xn d.xC, .int .i64 d.tz] from rfl]
  have M0 := Lib.hid ((Has.start (Below.refl w.heap.size w) (Nat.le_refl _)).newcel 39 #[.string d.nm, .int .i64 d.fl, .slice d.sA d.sl.length d.sC, .slice d.nA d.nd.length d.nC, .slice d.rA d.rp.length d.rC, .slice d.yA d.sy.length d.yC, .slice d.bA d.bk.length d.bC, .slice d.wA d.wd.length d.wC, .int .i64 d.sh, .slice d.lA d.rl.length d.lC, .slice d.tA d.st.length d.tC, .slice d.iA d.ini.length d.iC, .slice d.fA d.fin.length d.fC, .slice d.xA d.xn d.xC, .int .i64 d.tz])
  go_enter Try.func28, Try.ntmps28
  go_upto_region 1 with (fail)
  obtain ⟨W, hW⟩ : ∃ W, (w.alloc (.cells #[.string d.nm, .int .i64 d.fl, .slice d.sA d.sl.length d.sC, .slice d.nA d.nd.length d.nC, .slice d.rA d.rp.length d.rC, .slice d.yA d.sy.length d.yC, .slice d.bA d.bk.length d.bC, .slice d.wA d.wd.length d.wC, .int .i64 d.sh, .slice d.lA d.rl.length d.lC, .slice d.tA d.st.length d.tC, .slice d.iA d.ini.length d.iC, .slice d.fA d.fin.length d.fC, .slice d.xA d.xn d.xC, .int .i64 d.tz] 39)) = W := ⟨_, rfl⟩
  rw [hW] at M0 ⊢
  clear hW
  generalize hB : w.heap.size = b0 at M0 HOK ⊢
  have HB := Lib.hid hB
  clear hB
  have M1 : Hid (Has b0 w W (Star (Cel b0 39 (imgD d)) Emp)) := M0
  clear M0
  have i2 : W.cell? ⟨b0, 2, none⟩ = some (.slice d.sA d.sl.length d.sC) := M1.out.cellat b0 2 rfl
  have hll := (HOK.out W M1.out.bel).segs.rows.len
  unfold maxLen at hll
  have MZ := Lib.hid M1.out.bel
  by_cases h1 : (d.sl.length : Int) < 1
  · go_wp2
    (go_ret; exact ⟨⟨_, rfl, fun h => by cases h⟩, by rw [HB.out]; exact MZ.out⟩)
  by_cases h8 : (8 : Int) < (d.sl.length : Int)
  · go_wp2
    (go_ret; exact ⟨⟨_, rfl, fun h => by cases h⟩, by rw [HB.out]; exact MZ.out⟩)
  clear MZ
  go_wp2_with fail
  go_loopw [3] (fun i wr => ∃ k : Nat, k ≤ d.sl.length ∧ i = .int .i64 k ∧ Hid (Has b0 w wr (Star (Cel b0 39 (imgD d)) Emp)) ∧ Hid (Upto d.sl k)) (fun i _ => d.sl.length - (intOf i).toNat)
  case atStart => exact ⟨0, Nat.zero_le _, rfl, M1, Lib.hid (Upto.zero d.sl)⟩
  case round =>
    clear i2 M1
    obtain ⟨k, hk, rfl, M3, HU⟩ := hrel
    obtain ⟨w3, hw3⟩ : ∃ w3, w3 = wr := ⟨_, rfl⟩
    rw [← hw3] at M3 ⊢
    clear hw3
    by_cases hkn : k < d.sl.length
    · obtain ⟨s, hs⟩ : ∃ s, d.sl[k]? = some s := ⟨_, List.getElem?_eq_getElem hkn⟩
      obtain ⟨b, off, hA, hcell⟩ := (HOK.out _ M3.out.bel).segs.rows.elem k s hs
      have i2 : w3.cell? ⟨b0, 2, none⟩ = some (.slice (some ⟨b, off, none⟩) d.sl.length d.sC) := M3.out.cellat b0 2 (by rw [← hA]; rfl)
      have cel : ∀ j v, (segA s).toList[j]? = some v → w3.cell? ⟨b, off + k * 4 + j, none⟩ = some v := fun j v hv => hcell j v hv
      have HS := Lib.hid hs
      have HA := Lib.hid hA
      have hbl := ((HOK.out _ M3.out.bel).segs.rng s (List.mem_of_getElem? hs)).2.2.2
      unfold maxLen at hbl
      clear hcell hs hA
      have Na := Lib.hid (M3.out.newcel 50 #[.int .i64 0, .int .i64 0, .slice none 0 0, .int .i64 0])
      have Nb := Lib.hid (Na.out.rowc w3.heap.size (segA s))
      go_upto_region 7 with (first | (refine wpList_partW (by kernel_rfl) 50 _ rfl b (off + k * 4) rfl (segA s) _ cel Try.underlying50 rfl (by kernel_rfl) ?_) | (refine wpList_store_row rfl 50 _ _ rfl w3.heap.size (segA s) rfl rfl 50 #[.int .i64 0, .int .i64 0, .slice none 0 0, .int .i64 0] (Na.out.getc w3.heap.size) (by kernel_rfl) rfl (by kernel_rfl) ?_))
      obtain ⟨W5, hW⟩ : ∃ W5, (w3.alloc (.cells #[.int .i64 0, .int .i64 0, .slice none 0 0, .int .i64 0] 50)).setRow w3.heap.size (segA s) = W5 := ⟨_, rfl⟩
      have N5 := Nb
      rw [hW] at N5 ⊢
      clear hW Na Nb
      generalize w3.heap.size = q at N5 ⊢
      clear i2 cel M3
      have s0 : W5.cell? ⟨q, 0, none⟩ = some (.int .i64 s.at_) := N5.out.cellat q 0 rfl
      have s1 : W5.cell? ⟨q, 1, none⟩ = some (.int .i64 s.sz) := N5.out.cellat q 1 rfl
      have s2 : W5.cell? ⟨q, 2, none⟩ = some (.slice s.A s.b.length s.c) := N5.out.cellat q 2 rfl
      have s3 : W5.cell? ⟨q, 3, none⟩ = some (.int .i64 s.pm) := N5.out.cellat q 3 rfl
      have MZ := Lib.hid N5.out.bel
      have hmod : 0 ≤ s.at_ → s.at_.tmod 64 = s.at_ % 64 := fun h => Int.tmod_eq_emod_of_nonneg h
      have HG : Hid (¬ s.at_ < 0 → ¬ 65536 < s.at_ → s.at_.tmod 64 = 0 → ¬ s.sz < 1 → ¬ 65536 < s.sz → ¬ 65536 < s.at_ + s.sz → ¬ s.sz < (s.b.length : Int) → ¬ s.pm < 0 → ¬ 7 < s.pm → SgGood s) := Lib.hid (fun g1 g2 g3 g4 g5 g6 g7 g8 g9 => ⟨by omega, by have := hmod (by omega); omega, by omega, by omega, by omega, by omega, by omega⟩)
      clear hmod
      by_cases g1 : s.at_ < 0
      · go_wp2
        (go_ret; exact ⟨⟨_, rfl, fun h => by cases h⟩, by rw [HB.out]; exact MZ.out⟩)
      by_cases g2 : 65536 < s.at_
      · go_wp2
        (go_ret; exact ⟨⟨_, rfl, fun h => by cases h⟩, by rw [HB.out]; exact MZ.out⟩)
      obtain ⟨r, hr⟩ : ∃ r, s.at_.tmod 64 = r := ⟨_, rfl⟩
      rw [hr] at HG
      by_cases g3n : r ≠ 0
      · have g3b : (r != 0) = true := bne_iff_ne.2 g3n
        go_wp2
        (go_ret; exact ⟨⟨_, rfl, fun h => by cases h⟩, by rw [HB.out]; exact MZ.out⟩)
      have g3 : r = 0 := by omega
      have g3b : (r != 0) = false := by simp [g3]
      clear g3n
      by_cases g4 : s.sz < 1
      · go_wp2
        (go_ret; exact ⟨⟨_, rfl, fun h => by cases h⟩, by rw [HB.out]; exact MZ.out⟩)
      by_cases g5 : 65536 < s.sz
      · go_wp2
        (go_ret; exact ⟨⟨_, rfl, fun h => by cases h⟩, by rw [HB.out]; exact MZ.out⟩)
      by_cases g6 : 65536 < s.at_ + s.sz
      · go_wp2
        (go_ret; exact ⟨⟨_, rfl, fun h => by cases h⟩, by rw [HB.out]; exact MZ.out⟩)
      by_cases g7 : s.sz < (s.b.length : Int)
      · go_wp2
        (go_ret; exact ⟨⟨_, rfl, fun h => by cases h⟩, by rw [HB.out]; exact MZ.out⟩)
      by_cases g8 : s.pm < 0
      · go_wp2
        (go_ret; exact ⟨⟨_, rfl, fun h => by cases h⟩, by rw [HB.out]; exact MZ.out⟩)
      by_cases g9 : 7 < s.pm
      · go_wp2
        (go_ret; exact ⟨⟨_, rfl, fun h => by cases h⟩, by rw [HB.out]; exact MZ.out⟩)
      have HGD := Lib.hid (HG.out g1 g2 g3 g4 g5 g6 g7 g8 g9)
      clear HG
      go_upto_region 9 with (fail)
      clear g1 g2 g3 g3b g4 g5 g6 g7 g8 g9 hr s1 s2 s3 MZ
      rcases Nat.eq_zero_or_pos k with hk0 | hk0
      · subst hk0
        have hgt : decide ((0 : Int) < (((0 : Nat) : Int))) = false := by decide
        go_quiet (fail)
        rename_i nq
        have M6 := Lib.hid ((N5.out.stay (below_drewN (Below.refl _ _) nq)).norm (Star (Cel b0 39 (imgD d)) Emp))
        have H1 := Lib.hid (Upto.one HS.out HGD.out)
        clear N5 s0
        go_wp2_with fail
        first
          | (go_roundw
             case rel => exact ⟨1, by omega, by first | rfl | go_num, M6, H1⟩
             case measure => simp [intOf]; omega)
          | (refine ⟨?_, ?_⟩
             · (repeat apply Exists.intro)
               refine ⟨?_, rfl⟩
               exact ⟨1, by omega, by first | rfl | go_num, M6, H1⟩
             · simp [intOf]; omega)
      · obtain ⟨k, rfl⟩ : ∃ k', k = k' + 1 := ⟨k - 1, by omega⟩
        clear hk0
        have hkl : k < d.sl.length := by omega
        obtain ⟨t, ht⟩ : ∃ t, d.sl[k]? = some t := ⟨_, List.getElem?_eq_getElem hkl⟩
        have M6 := Lib.hid (N5.out.stay (Below.refl _ _).drew)
        obtain ⟨b', off', hA', hcell'⟩ := (HOK.out _ M6.out.bel).segs.rows.elem k t ht
        have hbo : b' = b ∧ off' = off := by
          have := HA.out
          rw [hA'] at this
          simpa using this
        obtain ⟨rfl, rfl⟩ := hbo
        have c0 : W5.drew.cell? ⟨b0, 2, none⟩ = some (.slice (some ⟨b', off', none⟩) d.sl.length d.sC) := M6.out.cellat b0 2 (by rw [← HA.out]; rfl)
        have p0 : W5.drew.cell? ⟨b', off' + k * 4, none⟩ = some (.int .i64 t.at_) := hcell' 0 _ rfl
        have p1 : W5.drew.cell? ⟨b', off' + k * 4 + 1, none⟩ = some (.int .i64 t.sz) := hcell' 1 _ rfl
        have t0 : W5.drew.cell? ⟨q, 0, none⟩ = some (.int .i64 s.at_) := M6.out.cellat q 0 rfl
        have hgd := HU.out.each k t (by omega) ht
        have ta0 := hgd.a0
        have tz0 := hgd.s0
        have te1 := hgd.e1
        have HNX := Lib.hid (fun (hh : up (t.at_ + t.sz) ≤ s.at_) => HU.out.next ht HS.out HGD.out hh)
        clear hcell' hA' ht hgd s0
        have hgt : Hid (decide ((0 : Int) < ((k + 1 : Nat) : Int)) = true) := Lib.hid (decide_eq_true (by omega))
        have hsub : Hid (IntKind.i64.wrap (((k + 1 : Nat) : Int) - 1) = (k : Int)) := Lib.hid (by rw [IntKind.wrap_i64]; omega)
        have hadd : Hid (IntKind.i64.wrap (t.at_ + t.sz) = t.at_ + t.sz) := Lib.hid (by rw [IntKind.wrap_i64]; omega)
        refine wp_region_noPanic ?_
        refine wp_region_held_drew (S := SB W5.drew) (by kernel_rfl) (Below.refl _ _) ?_
        intro hS
        refine takeD (i := 0) (v := .int .i64 ((k + 1 : Nat) : Int)) 77 rfl (by kernel_rfl) (by kernel_rfl) (by kernel_rfl) (by kernel_rfl) (fun _ _ _ h => h) (yS_pure (by kernel_rfl) (fun w => by kernel_rfl)) hS ?_
        refine takeD (i := 1) (v := .bool true) 78 rfl (by kernel_rfl) (by kernel_rfl) (by kernel_rfl) (by kernel_rfl) (fun _ _ _ h => h) (yS_pure (by kernel_rfl) (fun w => run_val (show _ = Result.ok (Next.value (.bool (decide ((0 : Int) < ((k + 1 : Nat) : Int))))) w by kernel_rfl) (by rw [hgt.out]))) hS ?_
        refine takeD (i := 2) (v := .bool true) 79 rfl (by kernel_rfl) (by kernel_rfl) (by kernel_rfl) (by kernel_rfl) (fun _ _ _ h => h) (yS_pure (by kernel_rfl) (fun w => by kernel_rfl)) hS ?_
        refine takeD (i := 3) (v := .pointer (some ⟨q, 0, none⟩)) 80 rfl (by kernel_rfl) (by kernel_rfl) (by kernel_rfl) (by kernel_rfl) (fun _ _ _ h => h) (yS_pure (by kernel_rfl) (fun w => by kernel_rfl)) hS ?_
        refine takeD (i := 4) 81 rfl (by kernel_rfl) (by kernel_rfl) (by kernel_rfl) (by kernel_rfl) (fun _ _ _ h => h) (yS_cell (by kernel_rfl) 3 _ rfl q (0) (by kernel_rfl) (.int .i64 s.at_) t0 _ Try.underlying3 rfl) hS ?_
        refine takeD (i := 5) (v := .pointer (some ⟨b0, 2, none⟩)) 82 rfl (by kernel_rfl) (by kernel_rfl) (by kernel_rfl) (by kernel_rfl) (fun _ _ _ h => h) (yS_pure (by kernel_rfl) (fun w => by kernel_rfl)) hS ?_
        refine takeD (i := 6) 83 rfl (by kernel_rfl) (by kernel_rfl) (by kernel_rfl) (by kernel_rfl) (fun _ _ _ h => h) (yS_cell (by kernel_rfl) 24 _ rfl b0 (2) (by kernel_rfl) (.slice (some ⟨b', off', none⟩) d.sl.length d.sC) c0 _ Try.underlying24 rfl) hS ?_
        refine takeD (i := 7) (v := .int .i64 ((k + 1 : Nat) : Int)) 84 rfl (by kernel_rfl) (by kernel_rfl) (by kernel_rfl) (by kernel_rfl) (fun _ _ _ h => h) (yS_pure (by kernel_rfl) (fun w => by kernel_rfl)) hS ?_
        refine takeD (i := 8) (v := .int .i64 (k : Int)) 85 rfl (by kernel_rfl) (by kernel_rfl) (by kernel_rfl) (by kernel_rfl) (fun _ _ _ h => h) (yS_pure (by kernel_rfl) (fun w => run_val (show _ = Result.ok (Next.value (.int .i64 (IntKind.i64.wrap (((k + 1 : Nat) : Int) - 1)))) w by kernel_rfl) (by rw [hsub.out]))) hS ?_
        refine takeD (i := 9) 86 rfl (by kernel_rfl) (by kernel_rfl) (by kernel_rfl) (by kernel_rfl) (fun _ _ _ h => h) (yS_sl (by kernel_rfl) _ _ rfl b' (off') d.sl.length d.sC k 4 (by kernel_rfl) (by kernel_rfl) Try.underlying24 (by kernel_rfl) hkl) hS ?_
        refine takeD (i := 10) (v := .pointer (some ⟨b', off' + k * 4, none⟩)) 87 rfl (by kernel_rfl) (by kernel_rfl) (by kernel_rfl) (by kernel_rfl) (fun _ _ _ h => h) (yS_pure (by kernel_rfl) (fun w => by kernel_rfl)) hS ?_
        refine takeD (i := 11) 88 rfl (by kernel_rfl) (by kernel_rfl) (by kernel_rfl) (by kernel_rfl) (fun _ _ _ h => h) (yS_cell (by kernel_rfl) 3 _ rfl b' (off' + k * 4) (by kernel_rfl) (.int .i64 t.at_) p0 _ Try.underlying3 rfl) hS ?_
        refine takeD (i := 12) (v := .pointer (some ⟨b0, 2, none⟩)) 89 rfl (by kernel_rfl) (by kernel_rfl) (by kernel_rfl) (by kernel_rfl) (fun _ _ _ h => h) (yS_pure (by kernel_rfl) (fun w => by kernel_rfl)) hS ?_
        refine takeD (i := 13) 90 rfl (by kernel_rfl) (by kernel_rfl) (by kernel_rfl) (by kernel_rfl) (fun _ _ _ h => h) (yS_cell (by kernel_rfl) 24 _ rfl b0 (2) (by kernel_rfl) (.slice (some ⟨b', off', none⟩) d.sl.length d.sC) c0 _ Try.underlying24 rfl) hS ?_
        refine takeD (i := 14) (v := .int .i64 ((k + 1 : Nat) : Int)) 91 rfl (by kernel_rfl) (by kernel_rfl) (by kernel_rfl) (by kernel_rfl) (fun _ _ _ h => h) (yS_pure (by kernel_rfl) (fun w => by kernel_rfl)) hS ?_
        refine takeD (i := 15) (v := .int .i64 (k : Int)) 92 rfl (by kernel_rfl) (by kernel_rfl) (by kernel_rfl) (by kernel_rfl) (fun _ _ _ h => h) (yS_pure (by kernel_rfl) (fun w => run_val (show _ = Result.ok (Next.value (.int .i64 (IntKind.i64.wrap (((k + 1 : Nat) : Int) - 1)))) w by kernel_rfl) (by rw [hsub.out]))) hS ?_
        refine takeD (i := 16) 93 rfl (by kernel_rfl) (by kernel_rfl) (by kernel_rfl) (by kernel_rfl) (fun _ _ _ h => h) (yS_sl (by kernel_rfl) _ _ rfl b' (off') d.sl.length d.sC k 4 (by kernel_rfl) (by kernel_rfl) Try.underlying24 (by kernel_rfl) hkl) hS ?_
        refine takeD (i := 17) (v := .pointer (some ⟨b', off' + k * 4 + 1, none⟩)) 94 rfl (by kernel_rfl) (by kernel_rfl) (by kernel_rfl) (by kernel_rfl) (fun _ _ _ h => h) (yS_pure (by kernel_rfl) (fun w => by kernel_rfl)) hS ?_
        refine takeD (i := 18) 95 rfl (by kernel_rfl) (by kernel_rfl) (by kernel_rfl) (by kernel_rfl) (fun _ _ _ h => h) (yS_cell (by kernel_rfl) 3 _ rfl b' (off' + k * 4 + 1) (by kernel_rfl) (.int .i64 t.sz) p1 _ Try.underlying3 rfl) hS ?_
        refine takeD (i := 19) (v := .int .i64 (t.at_ + t.sz)) 96 rfl (by kernel_rfl) (by kernel_rfl) (by kernel_rfl) (by kernel_rfl) (fun _ _ _ h => h) (yS_pure (by kernel_rfl) (fun w => run_val (show _ = Result.ok (Next.value (.int .i64 (IntKind.i64.wrap (t.at_ + t.sz)))) w by kernel_rfl) (by rw [hadd.out]))) hS ?_
        refine callD (i := 20) 97 (by kernel_rfl) rfl (by kernel_rfl) (by kernel_rfl) _ _ _ rfl _ (by kernel_rfl) ((up09_b (t.at_ + t.sz) (by omega) (by omega) _).mono ?_)
        rintro e X1 ⟨rfl, hb1⟩
        have hS1 : SB W5.drew X1 := hS.trans (hb1.mono hS.size)
        clear hb1
        refine ⟨_, rfl, hS1, ?_⟩
        clear hS
        have hS := hS1
        clear hS1
        obtain ⟨bb, hbb⟩ : ∃ bb, decide (s.at_ < up (t.at_ + t.sz)) = bb := ⟨_, rfl⟩
        refine takeD (i := 21) (v := .bool bb) 98 rfl (by kernel_rfl) (by kernel_rfl) (by kernel_rfl) (by kernel_rfl) (fun _ _ _ h => h) (yS_pure (by kernel_rfl) (fun w => run_val (show _ = Result.ok (Next.value (.bool (decide (s.at_ < up (t.at_ + t.sz))))) w by kernel_rfl) (by rw [hbb]))) hS ?_
        refine takeD (i := 22) (v := .bool bb) 99 rfl (by kernel_rfl) (by kernel_rfl) (by kernel_rfl) (by kernel_rfl) (fun _ _ _ h => h) (yS_pure (by kernel_rfl) (fun w => by kernel_rfl)) hS ?_
        refine wpAnyH_done (by kernel_rfl) ?_ _
        refine NoPanic.normal ?_
        simp only [Act.put, List.setIfInBounds_toArray, List.set_cons_succ, List.set_cons_zero]
        have M7 := Lib.hid ((M6.out.stay hS).norm (Star (Cel b0 39 (imgD d)) Emp))
        have MZ := Lib.hid M7.out.bel
        have HBB := Lib.hid hbb
        clear hS c0 p0 p1 t0 M6 N5 hgt hsub hadd ta0 tz0 te1 hbb
        generalize t.at_ + t.sz = y1 at HNX HBB ⊢
        generalize up y1 = y2 at HNX HBB ⊢
        cases bb
        · have H1 := Lib.hid (HNX.out (by have := of_decide_eq_false HBB.out; omega))
          clear MZ
          go_wp2_with fail
          first
            | (go_roundw
               case rel => exact ⟨k + 2, by omega, by first | rfl | go_num, M7, H1⟩
               case measure => simp [intOf]; omega)
            | (refine ⟨?_, ?_⟩
               · (repeat apply Exists.intro)
                 refine ⟨?_, rfl⟩
                 exact ⟨k + 2, by omega, by first | rfl | go_num, M7, H1⟩
               · simp [intOf]; omega)
        · go_wp2
          (go_ret; exact ⟨⟨_, rfl, fun h => by cases h⟩, by rw [HB.out]; exact MZ.out⟩)
    · have hkl : k = d.sl.length := by omega
      have i2 : w3.cell? ⟨b0, 2, none⟩ = some (.slice d.sA d.sl.length d.sC) := M3.out.cellat b0 2 rfl
      have hge : ¬ ((k : Int) < (d.sl.length : Int)) := by omega
      have MZ := Lib.hid M3.out.bel
      have HSK : Hid (SegsOk d.sl) := Lib.hid ((hkl ▸ HU.out : Upto d.sl d.sl.length).all (by intro e; rw [e] at h1; simp at h1) (by omega))
      clear M3 HU
      go_wp2
      (go_ret; exact ⟨⟨_, rfl, fun _ => HSK.out⟩, by rw [HB.out]; exact MZ.out⟩)
end Go.Proofs.Ytlkelfaokbdddaa
