/-
  Layer 15: the walk of PlaceMaps.
  Conditions: none. (My own text.)
-/
import Derived.Test.YtlkelfaokbdddaaPlw
namespace Go.Proofs.Ytlkelfaokbdddaa
open Go.RowKit Spm
set_option linter.unusedVariables false
set_option linter.unusedSimpArgs false

attribute [local irreducible] wpList
set_option maxRecDepth 100000 in
set_option maxHeartbeats 4000000 in
theorem maps15_walk (v : Value) (l : List ActM) (vi : Value) (il : List (Img × Value × List Sg)) (w : World) (hv : ActsV w w.heap.size v l) (hr : RowsAt 15 (fun x : Img × Value × List Sg => (imgA x.1 x.2.1).toList) w (fun k => k < w.heap.size) vi il)
    (hi : ∀ x ∈ il, ImgAt w (fun k => k < w.heap.size) x.1 x.2.1 x.2.2) : Calls Try.prog 6 #[v, vi] w fun e w' => e = .returned (.bool true) ∧ Below w.heap.size w w' := by
  have HV := Lib.hid hv
  have HI := Lib.hid hi
  obtain ⟨Ai, ci, rfl, hci, hmi, hrow⟩ := hr
  have HROW := Lib.hid hrow
  have hil : il.length ≤ 9223372036854775807 := by unfold maxLen at hmi; omega
  clear hv hi hrow hci hmi
  go_enter Try.func6, Try.ntmps6
  go_wp2_with fail
  refine (awake15 w).mono ?_
  rintro e w1 ⟨rfl, hb⟩
  have H1 := Lib.hid hb
  clear hb
  go_wp2_with fail
  refine (both15 H1.out H1.out.size v l HV.out).mono ?_
  rintro e w2 ⟨a, c, rfl, m⟩
  generalize hB : w.heap.size = b0 at m HROW HI ⊢
  have HB := Lib.hid hB
  clear hB
  have M3 := Lib.hid m
  clear m H1 HV
  generalize playS [] (l.map (·.x)) = L at M3
  go_wp2_with fail
  go_loopw [8] (fun i wr => ∃ (k : Nat) (Lk : List Rg), k ≤ il.length ∧ k ≤ 8 ∧ i = .int .i64 k ∧ Hid (Has b0 w wr (Star (Sp a Lk) (Star (Rf c Lk) Emp)))) (fun i _ => 8 - (intOf i).toNat)
  case atStart => exact ⟨0, L, Nat.zero_le _, Nat.zero_le _, rfl, M3⟩
  case round =>
    clear M3
    obtain ⟨k, Lk, hk, hk8, rfl, M4⟩ := hrel
    obtain ⟨w4, hw4⟩ : ∃ w4, w4 = wr := ⟨_, rfl⟩
    rw [← hw4] at M4 ⊢
    clear hw4
    have MZ := Lib.hid M4.out.bel
    by_cases hkn : k < il.length
    case neg =>
      have hge : ¬ ((k : Int) < (il.length : Int)) := by omega
      clear M4
      go_wp2
      go_ret
      exact ⟨rfl, by rw [HB.out]; exact MZ.out⟩
    by_cases hk8n : k < 8
    case neg =>
      have hge : ¬ ((k : Int) < 8) := by omega
      clear M4
      go_wp2
      go_ret
      exact ⟨rfl, by rw [HB.out]; exact MZ.out⟩
    clear MZ
    obtain ⟨⟨m, vs, sl⟩, hx⟩ : ∃ x, il[k]? = some x := ⟨_, List.getElem?_eq_getElem hkn⟩
    have him := HI.out _ (List.mem_of_getElem? hx)
    obtain ⟨d, hd, hok, hds, _, _⟩ := him.data
    simp only at hd hds hok
    obtain ⟨b, off, hA, hbB, hlt, hcell0⟩ := HROW.out k _ hx
    subst hA
    have HCEL := Lib.hid (fun (X : World) (hX : Below b0 w X) => (show ∀ (j : Nat) (v : Value), (imgD d).toList[j]? = some v → X.cell? ⟨b, off + k * 15 + j, none⟩ = some v from
      fun j v hv => (hX.cell (p := ⟨b, off + k * 15 + j, none⟩) hbB).trans (hcell0 j v (by simp only [hd]; exact hv))))
    have HOK := Lib.hid (fun (X : World) (hX : Below b0 w X) => hok.below hX)
    have HSEG := Lib.hid hok.segs
    clear hd hds hok him hcell0 hlt hbB hx
    have cel := HCEL.out w4 M4.out.bel
    go_wp2_with (first | (refine wpList_partW (by kernel_rfl) 39 _ rfl b (off + k * 15) rfl (imgD d) _ cel Try.underlying39 rfl (by kernel_rfl) ?_))
    refine (may09_any d _ w4 (HOK.out _ M4.out.bel)).mono ?_
    rintro e w5 ⟨⟨n, rfl, hn⟩, hb⟩
    have M5 := Lib.hid (M4.out.stay hb)
    clear hb M4 cel
    by_cases hn0 : n = 0
    case neg =>
      have hnb : (n != 0) = true := bne_iff_ne.2 hn0
      clear hn0 hn
      go_wp2_with fail
      first
        | (go_roundw
           case rel => exact ⟨k + 1, Lk, by omega, by omega, by go_num, M5⟩
           case measure => simp [intOf]; omega)
        | (refine ⟨?_, ?_⟩
           · (repeat apply Exists.intro)
             refine ⟨?_, rfl⟩
             exact ⟨k + 1, Lk, by omega, by omega, by go_num, M5⟩
           · simp [intOf]; omega)
    have HSK := Lib.hid (hn hn0)
    subst hn0
    clear hn
    have C1 := Lib.hid (pmap_own M5.out d.img d.segs d.sl HSEG.out (fun s hs => (HSK.out.each s hs).ok))
    have HSM := Lib.hid (map_same M5.out.ok HSK.out)
    have hR0 : ∃ R, mapI Lk d.sl = R := ⟨_, rfl⟩
    obtain ⟨⟨L4, at4, e4⟩, hR⟩ := hR0
    rw [hR] at C1 HSM
    clear hR
    have cel := HCEL.out w5 M5.out.bel
    go_wp2_with (first | (refine wpList_partW (by kernel_rfl) 39 _ rfl b (off + k * 15) rfl (imgD d) _ cel Try.underlying39 rfl (by kernel_rfl) ?_))
    refine (C1.out).mono ?_
    rintro e w6 ⟨rfl, m⟩
    have M6 := Lib.hid (m.pick (Rf c Lk))
    clear m C1 M5 cel
    have C2 := Lib.hid (rmap15_own M6.out d.img d.segs d.sl HSEG.out HSK.out)
    rw [← HSM.out] at C2
    have cel := HCEL.out w6 M6.out.bel
    go_wp2_with (first | (refine wpList_partW (by kernel_rfl) 39 _ rfl b (off + k * 15) rfl (imgD d) _ cel Try.underlying39 rfl (by kernel_rfl) ?_))
    refine (C2.out).mono ?_
    rintro e w7 ⟨rfl, m⟩
    have M7 := Lib.hid (m.pick (Sp a L4))
    clear m C2 M6 HSM cel
    go_upto_region 11 with (fail)
    have M8 := Lib.hid (M7.out.stay (Below.refl _ _).drew)
    clear M7
    have hS0 : Below b0 w w7.drew := M8.out.bel
    refine wp_region_noPanic ?_
    refine wp_region_held_drew (S := (fun X => Below b0 w X)) (by kernel_rfl) hS0 ?_
    intro hS
    refine takeD (i := 0) (v := .int .i64 at4) 59 rfl (by kernel_rfl) (by kernel_rfl) (by kernel_rfl) (by kernel_rfl) (fun _ _ _ h => h) (yG_pure (by kernel_rfl) (fun w => by kernel_rfl)) hS ?_
    refine takeD (i := 1) (v := .int .i64 at4) 60 rfl (by kernel_rfl) (by kernel_rfl) (by kernel_rfl) (by kernel_rfl) (fun _ _ _ h => h) (yG_pure (by kernel_rfl) (fun w => by kernel_rfl)) hS ?_
    refine takeD (i := 2) (v := .bool false) 61 rfl (by kernel_rfl) (by kernel_rfl) (by kernel_rfl) (by kernel_rfl) (fun _ _ _ h => h) (yG_pure (by kernel_rfl) (fun w => run_val (show _ = Result.ok (Next.value (.bool (at4 != at4))) w by kernel_rfl) (by simp))) hS ?_
    refine takeD (i := 3) (v := .bool false) 62 rfl (by kernel_rfl) (by kernel_rfl) (by kernel_rfl) (by kernel_rfl) (fun _ _ _ h => h) (yG_pure (by kernel_rfl) (fun w => by kernel_rfl)) hS ?_
    refine takeD (i := 4) (v := .int .i64 e4) 63 rfl (by kernel_rfl) (by kernel_rfl) (by kernel_rfl) (by kernel_rfl) (fun _ _ _ h => h) (yG_pure (by kernel_rfl) (fun w => by kernel_rfl)) hS ?_
    refine takeD (i := 5) (v := .int .i64 e4) 64 rfl (by kernel_rfl) (by kernel_rfl) (by kernel_rfl) (by kernel_rfl) (fun _ _ _ h => h) (yG_pure (by kernel_rfl) (fun w => by kernel_rfl)) hS ?_
    refine takeD (i := 6) (v := .bool false) 65 rfl (by kernel_rfl) (by kernel_rfl) (by kernel_rfl) (by kernel_rfl) (fun _ _ _ h => h) (yG_pure (by kernel_rfl) (fun w => run_val (show _ = Result.ok (Next.value (.bool (e4 != e4))) w by kernel_rfl) (by simp))) hS ?_
    refine takeD (i := 7) (v := .bool false) 66 rfl (by kernel_rfl) (by kernel_rfl) (by kernel_rfl) (by kernel_rfl) (fun _ _ _ h => h) (yG_pure (by kernel_rfl) (fun w => by kernel_rfl)) hS ?_
    refine takeD (i := 8) (v := .bool false) 67 rfl (by kernel_rfl) (by kernel_rfl) (by kernel_rfl) (by kernel_rfl) (fun _ _ _ h => h) (yG_pure (by kernel_rfl) (fun w => by kernel_rfl)) hS ?_
    refine takeD (i := 9) (v := .slice (some ⟨b, off, none⟩) il.length ci) 68 rfl (by kernel_rfl) (by kernel_rfl) (by kernel_rfl) (by kernel_rfl) (fun _ _ _ h => h) (yG_pure (by kernel_rfl) (fun w => by kernel_rfl)) hS ?_
    refine takeD (i := 10) (v := .int .i64 (k : Int)) 69 rfl (by kernel_rfl) (by kernel_rfl) (by kernel_rfl) (by kernel_rfl) (fun _ _ _ h => h) (yG_pure (by kernel_rfl) (fun w => by kernel_rfl)) hS ?_
    refine takeD (i := 11) 70 rfl (by kernel_rfl) (by kernel_rfl) (by kernel_rfl) (by kernel_rfl) (fun _ _ _ h => h) (yG_sl (by kernel_rfl) _ _ rfl b (off) il.length ci k 15 (by kernel_rfl) (by kernel_rfl) Try.underlying61 (by kernel_rfl) hkn) hS ?_
    refine takeD (i := 12) 71 rfl (by kernel_rfl) (by kernel_rfl) (by kernel_rfl) (by kernel_rfl) (fun _ _ _ h => h) (yG_part (by kernel_rfl) 39 _ rfl b (off + k * 15) (by kernel_rfl) (imgD d) _ (fun X h => HCEL.out X h) Try.underlying39 rfl (by kernel_rfl)) hS ?_
    refine takeD (i := 14) (v := .slice (some ⟨b, off, none⟩) il.length ci) 73 rfl (by kernel_rfl) (by kernel_rfl) (by kernel_rfl) (by kernel_rfl) (fun _ _ _ h => h) (yG_pure (by kernel_rfl) (fun w => by kernel_rfl)) hS ?_
    refine takeD (i := 15) (v := .int .i64 (k : Int)) 74 rfl (by kernel_rfl) (by kernel_rfl) (by kernel_rfl) (by kernel_rfl) (fun _ _ _ h => h) (yG_pure (by kernel_rfl) (fun w => by kernel_rfl)) hS ?_
    refine takeD (i := 16) 75 rfl (by kernel_rfl) (by kernel_rfl) (by kernel_rfl) (by kernel_rfl) (fun _ _ _ h => h) (yG_sl (by kernel_rfl) _ _ rfl b (off) il.length ci k 15 (by kernel_rfl) (by kernel_rfl) Try.underlying61 (by kernel_rfl) hkn) hS ?_
    refine takeD (i := 17) 76 rfl (by kernel_rfl) (by kernel_rfl) (by kernel_rfl) (by kernel_rfl) (fun _ _ _ h => h) (yG_part (by kernel_rfl) 39 _ rfl b (off + k * 15) (by kernel_rfl) (imgD d) _ (fun X h => HCEL.out X h) Try.underlying39 rfl (by kernel_rfl)) hS ?_
    refine callD (i := 13) 72 (by kernel_rfl) rfl (by kernel_rfl) (by kernel_rfl) _ _ _ rfl _ (by kernel_rfl) ((extent_any d.img d.segs d.sl _ _ (HOK.out _ hS).segs (fun s hs => (HSK.out.each s hs).ok)).mono ?_)
    rintro e X ⟨rfl, hb⟩
    have M9 := Lib.hid (M8.out.stay hb)
    have hS' : Below b0 w X := M9.out.bel
    clear hb
    refine ⟨_, rfl, hS', ?_⟩
    clear hS
    have hS := hS'
    clear hS'
    refine callD (i := 18) 77 (by kernel_rfl) rfl (by kernel_rfl) (by kernel_rfl) _ _ _ rfl _ (by kernel_rfl) ((rextent_any d.img d.segs d.sl _ _ (HOK.out _ hS).segs HSK.out.each).mono ?_)
    rintro e X ⟨rfl, hb⟩
    have M10 := Lib.hid (M9.out.stay hb)
    have hS' : Below b0 w X := M10.out.bel
    clear hb
    refine ⟨_, rfl, hS', ?_⟩
    clear hS
    have hS := hS'
    clear hS'
    refine takeD (i := 19) (v := .bool false) 78 rfl (by kernel_rfl) (by kernel_rfl) (by kernel_rfl) (by kernel_rfl) (fun _ _ _ h => h) (yG_pure (by kernel_rfl) (fun w => run_val (show _ = Result.ok (Next.value (.bool (extS d.sl != extS d.sl))) w by kernel_rfl) (by simp))) hS ?_
    refine takeD (i := 20) (v := .bool false) 79 rfl (by kernel_rfl) (by kernel_rfl) (by kernel_rfl) (by kernel_rfl) (fun _ _ _ h => h) (yG_pure (by kernel_rfl) (fun w => by kernel_rfl)) hS ?_
    refine takeD (i := 21) (v := .bool false) 80 rfl (by kernel_rfl) (by kernel_rfl) (by kernel_rfl) (by kernel_rfl) (fun _ _ _ h => h) (yG_pure (by kernel_rfl) (fun w => by kernel_rfl)) hS ?_
    refine takeD (i := 22) (v := .pointer (some ⟨a, 0, none⟩)) 81 rfl (by kernel_rfl) (by kernel_rfl) (by kernel_rfl) (by kernel_rfl) (fun _ _ _ h => h) (yG_pure (by kernel_rfl) (fun w => by kernel_rfl)) hS ?_
    refine takeD (i := 23) (v := .pointer (some ⟨c, 0, none⟩)) 82 rfl (by kernel_rfl) (by kernel_rfl) (by kernel_rfl) (by kernel_rfl) (fun _ _ _ h => h) (yG_pure (by kernel_rfl) (fun w => by kernel_rfl)) hS ?_
    refine callD (i := 24) 83 (by kernel_rfl) rfl (by kernel_rfl) (by kernel_rfl) _ _ _ rfl _ (by kernel_rfl) ((alike15 M10.out).mono ?_)
    rintro e X ⟨rfl, m⟩
    have M11 := Lib.hid m
    have hS' : Below b0 w X := M11.out.bel
    clear m
    refine ⟨_, rfl, hS', ?_⟩
    clear hS
    have hS := hS'
    clear hS'
    refine takeD (i := 25) (v := .bool false) 84 rfl (by kernel_rfl) (by kernel_rfl) (by kernel_rfl) (by kernel_rfl) (fun _ _ _ h => h) (yG_pure (by kernel_rfl) (fun w => by kernel_rfl)) hS ?_
    refine takeD (i := 26) (v := .bool false) 85 rfl (by kernel_rfl) (by kernel_rfl) (by kernel_rfl) (by kernel_rfl) (fun _ _ _ h => h) (yG_pure (by kernel_rfl) (fun w => by kernel_rfl)) hS ?_
    refine wpAnyH_done (by kernel_rfl) ?_ _
    refine NoPanic.normal ?_
    simp only [Act.put, List.setIfInBounds_toArray, List.set_cons_succ, List.set_cons_zero]
    clear hS M8 M9 M10
    go_wp2_with fail
    first
      | (go_roundw
         case rel => exact ⟨k + 1, L4, by omega, by omega, by go_num, M11⟩
         case measure => simp [intOf]; omega)
      | (refine ⟨?_, ?_⟩
         · (repeat apply Exists.intro)
           refine ⟨?_, rfl⟩
           exact ⟨k + 1, L4, by omega, by omega, by go_num, M11⟩
         · simp [intOf]; omega)
end Go.Proofs.Ytlkelfaokbdddaa
