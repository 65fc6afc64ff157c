/-
  Layer 15: what the document's Extent, Map, Unmap compute.
  Conditions: none. (My own text.)
-/
import Derived.Test.YtlkelfaokbdddaaPlr
import Derived.Test.YtlkelfaokbdddaaRf2
import Derived.Test.YtlkelfaokbdddaaPcn
namespace Go.Proofs.Ytlkelfaokbdddaa
open Go.RowKit Spm
set_option linter.unusedVariables false
set_option linter.unusedSimpArgs false

theorem SegB.away {w wr : World} {B : Nat} {s : Sg} {Y : Res} (h : SegB w (fun k => k < B) s) (hb : Below B w wr) : AwayB s.A s.b B wr Y := fun F G _ _ hB hn => by
  obtain ⟨bb, off, h1, h2, h3, h4⟩ := h hn
  exact ⟨bb, off, h1, fun hf => by have := hB bb hf; omega, Nat.lt_of_lt_of_le h3 hb.size, fun j x hj => (hb.cell (p := ⟨bb, off + j, none⟩) h2).trans (h4 j x hj)⟩
set_option maxRecDepth 100000 in
set_option maxHeartbeats 4000000 in
theorem rextent_any (m : Img) (vs : Value) (l : List Sg) (P : Nat → Prop) (w : World) (h : SegsAt w P vs l) (hok : ∀ s ∈ l, SgGood s) : Calls Try.prog 21 #[.agg (imgA m vs)] w fun e w' => e = .returned (.int .i64 (extS l)) ∧ Below w.heap.size w w' := by
  have HR := Lib.hid h.rows
  have HOK := Lib.hid hok
  clear h hok
  rw [show imgA m vs = #[m.c0, m.c1, vs, m.c3, m.c4, m.c5, m.c6, m.c7, m.c8, m.c9, m.c10, m.c11, m.c12, m.c13, m.c14] from rfl]
  have M0 := Lib.hid ((Has.start (Below.refl w.heap.size w) (Nat.le_refl _)).newcel 39 #[m.c0, m.c1, vs, m.c3, m.c4, m.c5, m.c6, m.c7, m.c8, m.c9, m.c10, m.c11, m.c12, m.c13, m.c14])
  go_enter Try.func21, Try.ntmps21
  go_upto_region 1 with (fail)
  obtain ⟨W, hW⟩ : ∃ W, (w.alloc (.cells #[m.c0, m.c1, vs, m.c3, m.c4, m.c5, m.c6, m.c7, m.c8, m.c9, m.c10, m.c11, m.c12, m.c13, m.c14] 39)) = W := ⟨_, rfl⟩
  rw [hW] at M0 ⊢
  clear  hW
  generalize hB : w.heap.size = b0 at M0 ⊢
  have HB := Lib.hid hB
  clear hB
  have M1 : Hid (Has b0 w W (Star (Cel b0 39 (imgA m vs)) Emp)) := M0
  clear M0
  obtain ⟨A, c, hvs, hc, hm, hrow⟩ := HR.out
  have HVS := Lib.hid hvs
  have HROW := Lib.hid hrow
  clear hrow HR hvs
  unfold maxLen at hm
  go_wp2_with fail
  go_loopw [3, 4] (fun v i wr => ∃ k : Nat, k ≤ l.length ∧ i = .int .i64 k ∧ v = .int .i64 (extS (l.take k)) ∧ Hid (Has b0 w wr (Star (Cel b0 39 (imgA m vs)) Emp))) (fun _ i _ => l.length - (intOf i).toNat)
  case atStart => exact ⟨0, Nat.zero_le _, rfl, rfl, M1⟩
  case round =>
    obtain ⟨k, hk, rfl, rfl, M2⟩ := hrel
    have i1 : intOf (Value.int .i64 ((k : Int) + 1)) = (k : Int) + 1 := rfl
    have i2 : intOf (Value.int .i64 (k : Int)) = (k : Int) := rfl
    by_cases hkn : k < l.length
    · obtain ⟨s, hs⟩ : ∃ s, l[k]? = some s := ⟨_, List.getElem?_eq_getElem hkn⟩
      obtain ⟨b, off, hA, _, hlt, hcell0⟩ := HROW.out k s hs
      have hso := HOK.out s (List.mem_of_getElem? hs)
      have hbd := extS_bound (l.take k) (fun t ht => (HOK.out t (List.mem_of_mem_take ht)).ok)
      have hub := up_ge s.sz hso.s0
      have a0 := hso.a0
      have a1 := hso.e1
      have a2 := hso.s0
      have hcell : ∀ j u, (segC s)[j]? = some u → wr.cell? ⟨b, off + k * 4 + j, none⟩ = some u := fun j u hu => (M2.out.bel.cell (p := ⟨b, off + k * 4 + j, none⟩) (by rw [← HB.out]; exact hlt)).trans (hcell0 j u hu)
      have HSN := Lib.hid (extS_snoc l k s hs)
      rw [upT_up hso.s0] at HSN
      have CU := Lib.hid (fun w3 => rup_any s.sz hso.s0 (by omega) w3)
      rw [hA] at HVS
      clear hlt hcell0 hso hA hs
      have im2 : wr.cell? ⟨b0, 2, none⟩ = some (.slice (some ⟨b, off, none⟩) l.length c) := M2.out.cellat b0 2 (by rw [← HVS.out]; rfl)
      have s0 : wr.cell? ⟨b, off + k * 4, none⟩ = some (.int .i64 s.at_) := hcell 0 _ rfl
      have s1 : wr.cell? ⟨b, off + k * 4 + 1, none⟩ = some (.int .i64 s.sz) := hcell 1 _ rfl
      have s2 : wr.cell? ⟨b, off + k * 4 + 2, none⟩ = some (.slice s.A s.b.length s.c) := hcell 2 _ rfl
      have s3 : wr.cell? ⟨b, off + k * 4 + 3, none⟩ = some (.int .i64 s.pm) := hcell 3 _ rfl
      clear s2 s3 hcell
      clear i2 i1
      generalize extS (l.take k) = X at hbd HSN ⊢
      generalize up s.sz = u at hub HSN CU
      generalize s.at_ = x at a0 a1 s0 HSN
      generalize s.sz = sz at a1 a2 s1 hub CU
      go_wp2_with fail
      have N0 := Lib.hid (M2.out.stay (Below.refl wr.heap.size wr).drew)
      have i64w : Hid (IntKind.i64.wrap (x + u) = x + u) := Lib.hid (by rw [show IntKind.i64.wrap (x + u) = wrap64 (x + u) by first | exact IntWalk.i64_left _ | exact i64_left _ | rfl]; unfold wrap64; omega)
      refine wp_region_noPanic ?_
      refine wp_region_held_drew (S := fun X => X.cell? ⟨b0, 2, none⟩ = some (.slice (some ⟨b, off, none⟩) l.length c) ∧ X.cell? ⟨b, off + k * 4, none⟩ = some (.int .i64 x) ∧ X.cell? ⟨b, off + k * 4 + 1, none⟩ = some (.int .i64 sz)) (by kernel_rfl) ⟨im2, s0, s1⟩ ?_
      intro hS
      refine wpAnyH_take (i := 0) (v := .pointer (some ⟨b0, 2, none⟩)) rfl (by kernel_rfl) (by kernel_rfl) (by kernel_rfl) (fun _ _ _ h => h) (yields_pure rfl (fun w => by kernel_rfl)) hS ?_
      refine wpAnyH_take (i := 1) rfl (by kernel_rfl) (by kernel_rfl) (by kernel_rfl) (fun _ _ _ h => h) (yields_load_cell rfl 24 _ rfl b0 2 (by kernel_rfl) (.slice (some ⟨b, off, none⟩) l.length c) (fun w h => h.1) _ Try.underlying24 rfl) hS ?_
      refine wpAnyH_take (i := 2) (v := .int .i64 k) rfl (by kernel_rfl) (by kernel_rfl) (by kernel_rfl) (fun _ _ _ h => h) (yields_pure rfl (fun w => by kernel_rfl)) hS ?_
      refine wpAnyH_take (i := 3) rfl (by kernel_rfl) (by kernel_rfl) (by kernel_rfl) (fun _ _ _ h => h) (yields_index_sl rfl _ _ rfl b off l.length c k 4 (by kernel_rfl) (by kernel_rfl) Try.underlying24 (by kernel_rfl) hkn) hS ?_
      refine wpAnyH_take (i := 4) (v := .pointer (some ⟨b, off + k * 4, none⟩)) rfl (by kernel_rfl) (by kernel_rfl) (by kernel_rfl) (fun _ _ _ h => h) (yields_pure rfl (fun w => by kernel_rfl)) hS ?_
      refine wpAnyH_take (i := 5) rfl (by kernel_rfl) (by kernel_rfl) (by kernel_rfl) (fun _ _ _ h => h) (yields_load_cell rfl 3 _ rfl b (off + k * 4) (by kernel_rfl) (.int .i64 x) (fun w h => h.2.1) _ Try.underlying3 rfl) hS ?_
      refine wpAnyH_take (i := 6) (v := .pointer (some ⟨b0, 2, none⟩)) rfl (by kernel_rfl) (by kernel_rfl) (by kernel_rfl) (fun _ _ _ h => h) (yields_pure rfl (fun w => by kernel_rfl)) hS ?_
      refine wpAnyH_take (i := 7) rfl (by kernel_rfl) (by kernel_rfl) (by kernel_rfl) (fun _ _ _ h => h) (yields_load_cell rfl 24 _ rfl b0 2 (by kernel_rfl) (.slice (some ⟨b, off, none⟩) l.length c) (fun w h => h.1) _ Try.underlying24 rfl) hS ?_
      refine wpAnyH_take (i := 8) (v := .int .i64 k) rfl (by kernel_rfl) (by kernel_rfl) (by kernel_rfl) (fun _ _ _ h => h) (yields_pure rfl (fun w => by kernel_rfl)) hS ?_
      refine wpAnyH_take (i := 9) rfl (by kernel_rfl) (by kernel_rfl) (by kernel_rfl) (fun _ _ _ h => h) (yields_index_sl rfl _ _ rfl b off l.length c k 4 (by kernel_rfl) (by kernel_rfl) Try.underlying24 (by kernel_rfl) hkn) hS ?_
      refine wpAnyH_take (i := 10) (v := .pointer (some ⟨b, off + k * 4 + 1, none⟩)) rfl (by kernel_rfl) (by kernel_rfl) (by kernel_rfl) (fun _ _ _ h => h) (yields_pure rfl (fun w => by kernel_rfl)) hS ?_
      refine wpAnyH_take (i := 11) rfl (by kernel_rfl) (by kernel_rfl) (by kernel_rfl) (fun _ _ _ h => h) (yields_load_cell rfl 3 _ rfl b (off + k * 4 + 1) (by kernel_rfl) (.int .i64 sz) (fun w h => h.2.2) _ Try.underlying3 rfl) hS ?_
      refine wpAnyH_all (rs := [12]) (by kernel_rfl) (by simp) ?_
      intro i hi
      obtain rfl : i = 12 := by simpa using hi
      refine wpOp_call rfl rfl _ _ _ rfl _ (by kernel_rfl) ((CU.out _).mono ?_)
      rintro e w6 ⟨rfl, rfl⟩
      refine ⟨_, rfl, hS, ?_⟩
      refine wpAnyH_take (i := 13) (v := .int .i64 (x + u)) rfl (by kernel_rfl) (by kernel_rfl) (by kernel_rfl) (fun _ _ _ h => h) (yields_pure rfl (fun w => by rw [← i64w.out]; kernel_rfl)) hS ?_
      refine wpAnyH_take (i := 14) (v := .int .i64 (x + u)) rfl (by kernel_rfl) (by kernel_rfl) (by kernel_rfl) (fun _ _ _ h => h) (yields_pure rfl (fun w => by kernel_rfl)) hS ?_
      refine wpAnyH_done (by kernel_rfl) ?_ _
      refine NoPanic.normal ?_
      have M6 := N0
      clear hS i64w N0
      clear CU M2 im2 s0 s1
      have i1 : intOf (Value.int .i64 ((k : Int) + 1)) = (k : Int) + 1 := rfl
      have i2 : intOf (Value.int .i64 (k : Int)) = (k : Int) := rfl
      by_cases hg : X < x + u
      · have hgd : decide (X < x + u) = true := decide_eq_true hg
        have hmx : Hid (max X (x + u) = x + u) := Lib.hid (by omega)
        go_wp2_with fail
        go_roundw
        case rel => exact ⟨k + 1, hkn, rfl, by rw [HSN.out, hmx.out], M6⟩
        case measure => omega
      · have hgd : decide (X < x + u) = false := decide_eq_false hg
        have hmx : Hid (max X (x + u) = X) := Lib.hid (by omega)
        go_wp2_with fail
        go_roundw
        case rel => exact ⟨k + 1, hkn, rfl, by rw [HSN.out, hmx.out], M6⟩
        case measure => omega
    · have hkl : k = l.length := by omega
      have HE : Hid (extS (l.take k) = extS l) := Lib.hid (by rw [hkl, List.take_length])
      have MZ := Lib.hid M2.out.bel
      have im2 : wr.cell? ⟨b0, 2, none⟩ = some (.slice A l.length c) := M2.out.cellat b0 2 (by rw [← HVS.out]; rfl)
      have hge : ¬ ((k : Int) < (l.length : Int)) := by omega
      clear M2
      rw [HE.out]
      go_wp2
      go_ret
      exact ⟨rfl, by rw [HB.out]; exact MZ.out⟩

section
variable {B : Nat} {w wr w' : World} {a : Nat} {L : List Rg} {Y : Res}
set_option maxRecDepth 100000 in
set_option maxHeartbeats 4000000 in
theorem runmap15_own [hY : Fr Y] (h : Has B w wr (Star (Rf a L) Y)) (base : Int) (m : Img) (vs : Value) (l : List Sg) (hs : SegsAt w (fun k => k < B) vs l) :
    Calls Try.prog 23 #[.pointer (some ⟨a, 0, none⟩), .int .i64 base, .agg (imgA m vs)] wr fun e w' => e = .returned (.int .i64 (unErrW base L 0 l)) ∧ Has B w w' (Star (Rf a (unAllW L base l)) Y) := by
  have HR := Lib.hid hs.rows
  obtain ⟨R, hR⟩ : ∃ R, (unErrW base L 0 l, unAllW L base l) = R := ⟨_, rfl⟩
  have HRR := Lib.hid hR
  have h1 : unErrW base L 0 l = R.1 := by rw [← hR]
  have h2 : unAllW L base l = R.2 := by rw [← hR]
  rw [h1, h2]
  clear hs hR h1 h2
  rw [show imgA m vs = #[m.c0, m.c1, vs, m.c3, m.c4, m.c5, m.c6, m.c7, m.c8, m.c9, m.c10, m.c11, m.c12, m.c13, m.c14] from rfl]
  have M0 := Lib.hid (h.newcel 39 #[m.c0, m.c1, vs, m.c3, m.c4, m.c5, m.c6, m.c7, m.c8, m.c9, m.c10, m.c11, m.c12, m.c13, m.c14])
  go_enter Try.func23, Try.ntmps23
  go_upto_region 1 with (fail)
  obtain ⟨W, hW⟩ : ∃ W, (wr.alloc (.cells #[m.c0, m.c1, vs, m.c3, m.c4, m.c5, m.c6, m.c7, m.c8, m.c9, m.c10, m.c11, m.c12, m.c13, m.c14] 39)) = W := ⟨_, rfl⟩
  rw [hW] at M0 ⊢
  clear  hW
  generalize wr.heap.size = b0 at M0 ⊢
  have M1 : Hid (Has B w W (Star (Cel b0 39 (imgA m vs)) (Star (Rf a L) Y))) := M0
  clear M0
  clear h
  obtain ⟨A, c, hvs, hc, hm, hrow⟩ := HR.out
  have HVS := Lib.hid hvs
  have HROW := Lib.hid hrow
  clear hrow HR hvs
  unfold maxLen at hm
  go_wp2_with fail
  go_loopw [7, 8] (fun v i wr => ∃ (k : Nat) (e : Int) (Lk : List Rg), k ≤ l.length ∧ i = .int .i64 k ∧ v = .int .i64 e ∧ Hid (Has B w wr (Star (Rf a Lk) (Star (Cel b0 39 (imgA m vs)) Y))) ∧ Hid ((unErrW base Lk e (l.drop k), unAllW Lk base (l.drop k)) = R)) (fun _ i _ => l.length - (intOf i).toNat)
  case atStart => exact ⟨0, 0, L, Nat.zero_le _, rfl, rfl, Lib.hid (M1.out.norm (Star (Rf a L) (Star (Cel b0 39 (imgA m vs)) Y))), HRR⟩
  case round =>
    obtain ⟨k, e, Lk, hk, rfl, rfl, M2, HK⟩ := hrel
    have i1 : intOf (Value.int .i64 ((k : Int) + 1)) = (k : Int) + 1 := rfl
    have i2 : intOf (Value.int .i64 (k : Int)) = (k : Int) := rfl
    by_cases hkn : k < l.length
    · obtain ⟨s, hs⟩ : ∃ s, l[k]? = some s := ⟨_, List.getElem?_eq_getElem hkn⟩
      obtain ⟨b, off, hA, hbB, hlt, hcell0⟩ := HROW.out k s hs
      have hcell : ∀ j u, (segC s)[j]? = some u → wr.cell? ⟨b, off + k * 4 + j, none⟩ = some u := fun j u hu => (M2.out.bel.cell (p := ⟨b, off + k * 4 + j, none⟩) hbB).trans (hcell0 j u hu)
      have HD : Hid (l.drop k = s :: l.drop (k + 1)) := Lib.hid (by
        obtain ⟨h1, h2⟩ := List.getElem?_eq_some_iff.1 hs
        rw [List.drop_eq_getElem_cons h1, h2])
      have HK2 := Lib.hid HK.out
      rw [HD.out] at HK2
      rw [hA] at HVS
      clear hlt hcell0 HD HK hbB hA hs
      have im2 : wr.cell? ⟨b0, 2, none⟩ = some (.slice (some ⟨b, off, none⟩) l.length c) := M2.out.cellat b0 2 (by rw [← HVS.out]; rfl)
      have s0 : wr.cell? ⟨b, off + k * 4, none⟩ = some (.int .i64 s.at_) := hcell 0 _ rfl
      have s1 : wr.cell? ⟨b, off + k * 4 + 1, none⟩ = some (.int .i64 s.sz) := hcell 1 _ rfl
      have s2 : wr.cell? ⟨b, off + k * 4 + 2, none⟩ = some (.slice s.A s.b.length s.c) := hcell 2 _ rfl
      have s3 : wr.cell? ⟨b, off + k * 4 + 3, none⟩ = some (.int .i64 s.pm) := hcell 3 _ rfl
      have C1 := Lib.hid (own_runmap (M2.out) (wrap64 (base + s.at_)))
      have HK3 : Hid ((unErrW base (unmapS Lk (wrap64 (base + s.at_))).1 (if e = 0 then (unmapS Lk (wrap64 (base + s.at_))).2 else e) (l.drop (k + 1)), unAllW (unmapS Lk (wrap64 (base + s.at_))).1 base (l.drop (k + 1))) = R) := HK2
      clear HK2 hcell
      generalize unmapS Lk (wrap64 (base + s.at_)) = Q at C1 HK3
      obtain ⟨L2, f⟩ := Q
      go_wp2_with fail
      refine (C1.out).mono ?_
      rintro e6 w6 ⟨rfl, M6a⟩
      have M6 := Lib.hid M6a
      clear C1 s0 s1 s2 s3 M2 M6a im2
      by_cases he : e = 0
      · have heb : (e == 0) = true := beq_iff_eq.2 he
        have HK4 : Hid ((unErrW base L2 f (l.drop (k + 1)), unAllW L2 base (l.drop (k + 1))) = R) := Lib.hid (by
          rw [← HK3.out, if_pos he])
        clear HK3 he
        go_wp2_with fail
        go_roundw
        case rel => exact ⟨k + 1, f, L2, hkn, rfl, rfl, M6, HK4⟩
        case measure => omega
      · have heb : (e == 0) = false := beq_eq_false_iff_ne.2 he
        have HK4 : Hid ((unErrW base L2 e (l.drop (k + 1)), unAllW L2 base (l.drop (k + 1))) = R) := Lib.hid (by
          rw [← HK3.out, if_neg he])
        clear HK3
        go_wp2_with fail
        go_roundw
        case rel => exact ⟨k + 1, e, L2, hkn, rfl, rfl, M6, HK4⟩
        case measure => omega
    · have hkl : k = l.length := by omega
      have HE : Hid (R = (e, Lk)) := Lib.hid (by rw [← HK.out, hkl, List.drop_length]; rfl)
      have MZ := Lib.hid (M2.out.back (Rf a Lk) Y)
      have im2 : wr.cell? ⟨b0, 2, none⟩ = some (.slice A l.length c) := M2.out.cellat b0 2 (by rw [← HVS.out]; rfl)
      have hge : ¬ ((k : Int) < (l.length : Int)) := by omega
      clear M2 HK
      go_wp2
      go_ret
      exact ⟨by rw [HE.out]; first | done | rfl, by rw [HE.out]; exact MZ.out⟩
set_option maxRecDepth 100000 in
set_option maxHeartbeats 4000000 in
theorem rmap15_own [hY : Fr Y] (h : Has B w wr (Star (Rf a L) Y)) (m : Img) (vs : Value) (l : List Sg) (hs : SegsAt w (fun k => k < B) vs l) (hok : SegsOk l) :
    Calls Try.prog 19 #[.pointer (some ⟨a, 0, none⟩), .agg (imgA m vs)] wr fun e w' => e = .returned (.tuple #[.int .i64 (mapR L l).2.1, .int .i64 (mapR L l).2.2]) ∧ Has B w w' (Star (Rf a (mapR L l).1) Y) := by
  have HSG := Lib.hid hs
  have HSO := Lib.hid hok.each
  have HOK := Lib.hid h.rok
  obtain ⟨R, hR⟩ : ∃ R, mapR L l = R := ⟨_, rfl⟩
  have HR := Lib.hid hR
  rw [hR]
  clear hs hR hok
  rw [show imgA m vs = #[m.c0, m.c1, vs, m.c3, m.c4, m.c5, m.c6, m.c7, m.c8, m.c9, m.c10, m.c11, m.c12, m.c13, m.c14] from rfl]
  have M0 := Lib.hid (h.newcel 39 #[m.c0, m.c1, vs, m.c3, m.c4, m.c5, m.c6, m.c7, m.c8, m.c9, m.c10, m.c11, m.c12, m.c13, m.c14])
  go_enter Try.func19, Try.ntmps19
  go_upto_region 1 with (fail)
  obtain ⟨W, hW⟩ : ∃ W, (wr.alloc (.cells #[m.c0, m.c1, vs, m.c3, m.c4, m.c5, m.c6, m.c7, m.c8, m.c9, m.c10, m.c11, m.c12, m.c13, m.c14] 39)) = W := ⟨_, rfl⟩
  rw [hW] at M0 ⊢
  clear  hW
  generalize wr.heap.size = b0 at M0 ⊢
  have M1 : Hid (Has B w W (Star (Cel b0 39 (imgA m vs)) (Star (Rf a L) Y))) := M0
  clear M0
  clear h
  obtain ⟨A, c, hvs, hc, hm, hrow⟩ := HSG.out.rows
  have HROW := Lib.hid hrow
  have HVS := Lib.hid hvs
  clear hrow hvs
  unfold maxLen at hm
  have hbd := extS_bound l (fun t ht => (HSO.out t ht).ok)
  have C1 := Lib.hid (rextent_any m vs l (fun k => k < B) W (HSG.out.below M1.out.bel) HSO.out)
  obtain ⟨X, hX⟩ : ∃ X, extS l = X := ⟨_, rfl⟩
  rw [hX] at C1 hbd
  go_wp2_with (first | (refine wpList_rowW rfl 39 _ rfl b0 rfl (imgA m vs) _ (M1.out.getc b0) Try.underlying39 rfl (by kernel_rfl) ?_))
  refine (C1.out).mono ?_
  rintro e w2 ⟨rfl, hb2⟩
  have M2 := Lib.hid (M1.out.stay hb2)
  clear M1 C1 hb2
  have C2 := Lib.hid (own_rgap (M2.out.pick (Rf a L)) X)
  have HGO := Lib.hid (fun (he : (gapS L X).2 = 0) => gap_ok HOK.out he)
  have HR2 : Hid (R = if (gapS L X).2 ≠ 0 then (L, 0, (gapS L X).2) else (refM (gapS L X).1 L l, (gapS L X).1, 0)) := Lib.hid (by rw [← HR.out, ← hX]; rfl)
  obtain ⟨base, hbs⟩ : ∃ base, (gapS L X).1 = base := ⟨_, rfl⟩
  obtain ⟨E, hE⟩ : ∃ E, (gapS L X).2 = E := ⟨_, rfl⟩
  rw [hbs, hE] at C2 HGO HR2
  clear hbs hE hX HR hbd
  go_wp2_with fail
  refine (C2.out).mono ?_
  rintro e w3 ⟨rfl, m3⟩
  have M3 := Lib.hid (m3.norm (Star (Rf a L) (Star (Cel b0 39 (imgA m vs)) Y)))
  clear m3 M2 C2
  by_cases hE0 : E = 0
  · have hEb : (E != 0) = false := by simp [hE0]
    obtain ⟨g1, g2, g3, g4, g5, _⟩ := HGO.out hE0
    have HK0 : Hid (refM base L l = R.1 ∧ R.2 = (base, 0)) := Lib.hid (by rw [HR2.out, if_neg (by simp [hE0])]; exact ⟨rfl, rfl⟩)
    have hup := up_ge X g1
    have g6 : base ≤ 4294967296 := by omega
    clear HR2 HGO hE0 g1 g2 g4 g5 hup
    go_wp2_with fail
    go_loopw [8] (fun i wr => ∃ (k : Nat) (Lk : List Rg), k ≤ l.length ∧ i = .int .i64 k ∧ Hid (Has B w wr (Star (Rf a Lk) (Star (Cel b0 39 (imgA m vs)) Y))) ∧ Hid (refM base Lk (l.drop k) = R.1)) (fun i _ => l.length - (intOf i).toNat)
    case atStart => exact ⟨0, L, Nat.zero_le _, rfl, M3, Lib.hid HK0.out.1⟩
    case round =>
      obtain ⟨k, Lk, hk, rfl, M4, HK⟩ := hrel
      clear M3
      have i1 : intOf (Value.int .i64 ((k : Int) + 1)) = (k : Int) + 1 := rfl
      have i2 : intOf (Value.int .i64 (k : Int)) = (k : Int) := rfl
      by_cases hkn : k < l.length
      · obtain ⟨s, hs⟩ : ∃ s, l[k]? = some s := ⟨_, List.getElem?_eq_getElem hkn⟩
        obtain ⟨b, off, hA, hbB, hlt, hcell0⟩ := HROW.out k s hs
        have hcell : ∀ {wx : World}, Below B w wx → ∀ j u, (segC s)[j]? = some u → wx.cell? ⟨b, off + k * 4 + j, none⟩ = some u := fun hbx j u hu => (hbx.cell (p := ⟨b, off + k * 4 + j, none⟩) hbB).trans (hcell0 j u hu)
        have HCELL := Lib.hid (fun (wx : World) (hbx : Below B w wx) => hcell hbx)
        have hso := HSO.out s (List.mem_of_getElem? hs)
        have HSM := Lib.hid (List.mem_of_getElem? hs)
        have a0 := hso.a0
        have a1 := hso.e1
        have a2 := hso.s0
        have HK2 : Hid (refM base (refStep base Lk s) (l.drop (k + 1)) = R.1) := Lib.hid (by
          obtain ⟨h1, h2⟩ := List.getElem?_eq_some_iff.1 hs
          have := HK.out
          rw [List.drop_eq_getElem_cons h1, h2] at this
          exact this)
        rw [hA] at HVS
        clear HK hso hs hlt hcell0 hbB hcell hA
        have im2 : wr.cell? ⟨b0, 2, none⟩ = some (.slice (some ⟨b, off, none⟩) l.length c) := M4.out.cellat b0 2 (by rw [← HVS.out]; rfl)
        have s0 : wr.cell? ⟨b, off + k * 4, none⟩ = some (.int .i64 s.at_) := HCELL.out wr M4.out.bel 0 _ rfl
        have s1 : wr.cell? ⟨b, off + k * 4 + 1, none⟩ = some (.int .i64 s.sz) := HCELL.out wr M4.out.bel 1 _ rfl
        have s2 : wr.cell? ⟨b, off + k * 4 + 2, none⟩ = some (.slice s.A s.b.length s.c) := HCELL.out wr M4.out.bel 2 _ rfl
        have s3 : wr.cell? ⟨b, off + k * 4 + 3, none⟩ = some (.int .i64 s.pm) := HCELL.out wr M4.out.bel 3 _ rfl
        have C1 := Lib.hid (own_rmapAt ((M4.out.stay (Below.refl _ _).drew)) (base + s.at_) s.sz s.pm (by unfold I64; omega))
        obtain ⟨L5, hL5⟩ : ∃ L5, (mapAtS Lk (base + s.at_) s.sz s.pm).1 = L5 := ⟨_, rfl⟩
        rw [hL5] at C1
        clear M4
        go_wp2_with fail
        go_still_tail 21, (by kernel_rfl)
        go_wp2_with fail
        refine (C1.out).mono ?_
        rintro e w6 ⟨rfl, m6⟩
        have M6 := Lib.hid m6
        clear m6 C1 s0 s1 s2 s3 im2
        have im2 : w6.cell? ⟨b0, 2, none⟩ = some (.slice (some ⟨b, off, none⟩) l.length c) := M6.out.cellat b0 2 (by rw [← HVS.out]; rfl)
        have s0 : w6.cell? ⟨b, off + k * 4, none⟩ = some (.int .i64 s.at_) := HCELL.out w6 M6.out.bel 0 _ rfl
        have s1 : w6.cell? ⟨b, off + k * 4 + 1, none⟩ = some (.int .i64 s.sz) := HCELL.out w6 M6.out.bel 1 _ rfl
        have s2 : w6.cell? ⟨b, off + k * 4 + 2, none⟩ = some (.slice s.A s.b.length s.c) := HCELL.out w6 M6.out.bel 2 _ rfl
        have s3 : w6.cell? ⟨b, off + k * 4 + 3, none⟩ = some (.int .i64 s.pm) := HCELL.out w6 M6.out.bel 3 _ rfl
        by_cases hb0 : s.b = []
        · have hlb : decide ((0 : Int) < (s.b.length : Int)) = false := by rw [hb0]; rfl
          have HL : Hid (refStep base Lk s = L5) := Lib.hid (by unfold refStep; rw [if_pos hb0, hL5])
          rw [HL.out] at HK2
          have s4 : w6.cell? ⟨b, off + k * 4 + 2, none⟩ = some (.slice s.A 0 s.c) := by rw [s2, hb0]; rfl
          clear hb0 hL5 s2 hlb
          go_wp2_with fail
          go_roundw
          case rel => exact ⟨k + 1, L5, hkn, rfl, M6, HK2⟩
          case measure => omega
        · have hpos : 0 < s.b.length := List.length_pos_iff.2 hb0
          have hlp : (0 : Int) < (s.b.length : Int) := by omega
          have hsl := (HSG.out.rng s HSM.out).2.2.2
          unfold maxLen at hsl
          have C2 := Lib.hid (own_rset (M6.out.stay (Below.refl _ _).drew) (base + s.at_) (by unfold I64; omega) s.A s.c s.b (by omega) 0 (by decide) ((HSG.out.bys s HSM.out).away (M6.out.stay (Below.refl _ _).drew).bel))
          have HL : Hid (refStep base Lk s = (setS L5 (base + s.at_) s.b 0).1) := Lib.hid (by unfold refStep; rw [if_neg hb0, hL5])
          rw [HL.out] at HK2
          obtain ⟨L6, hL6⟩ : ∃ L6, (setS L5 (base + s.at_) s.b 0).1 = L6 := ⟨_, rfl⟩
          rw [hL6] at C2 HK2
          clear hL6 hb0 M6 HL hL5
          go_wp2_with fail
          go_still_tail 15, (by kernel_rfl)
          go_wp2_with fail
          refine (C2.out).mono ?_
          rintro e w7 ⟨rfl, m7⟩
          have M7 := Lib.hid m7
          clear m7 C2 s0 s1 s2 s3 im2
          go_wp2_with fail
          go_roundw
          case rel => exact ⟨k + 1, L6, hkn, rfl, M7, HK2⟩
          case measure => omega
      · have hkl : k = l.length := by omega
        have HE : Hid (R = (Lk, base, 0)) := Lib.hid (by
          have h1 : Lk = R.1 := by rw [← HK.out, hkl, List.drop_length]; rfl
          rw [h1, ← HK0.out.2])
        have MZ := Lib.hid (M4.out.back (Rf a Lk) Y)
        have im2 : wr.cell? ⟨b0, 2, none⟩ = some (.slice A l.length c) := M4.out.cellat b0 2 (by rw [← HVS.out]; rfl)
        have hge : ¬ ((k : Int) < (l.length : Int)) := by omega
        clear M4 HK
        go_wp2
        go_ret2
        exact ⟨by rw [HE.out]; first | done | rfl, by rw [HE.out]; exact MZ.out⟩
  · have hEb : (E != 0) = true := bne_iff_ne.2 hE0
    have HE : Hid (R = (L, 0, E)) := Lib.hid (by rw [HR2.out, if_pos hE0])
    have MZ := Lib.hid (M3.out.back (Rf a L) Y)
    clear HR2 M3 HGO
    go_wp2
    go_ret2
    exact ⟨by rw [HE.out]; first | done | rfl, by rw [HE.out]; exact MZ.out⟩
end
end Go.Proofs.Ytlkelfaokbdddaa
