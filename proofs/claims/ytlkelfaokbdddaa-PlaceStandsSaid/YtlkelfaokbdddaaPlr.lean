/-
  Layer 15: what up, Extent, Unmap of the program compute.
  Conditions: none. (My own text.)
-/
import Derived.Test.YtlkelfaokbdddaaPlq
import Derived.Test.YtlkelfaokbdddaaPcm
import Derived.StillTailTactics
import Derived.Deep.RegionHeld3
import Derived.Test.YtlkelfaokbdddaaSp5
namespace Go.Proofs.Ytlkelfaokbdddaa
open Go.RowKit Spm
set_option linter.unusedVariables false
set_option linter.unusedSimpArgs false

structure Img where
  c0 : Value
  c1 : Value
  c3 : Value
  c4 : Value
  c5 : Value
  c6 : Value
  c7 : Value
  c8 : Value
  c9 : Value
  c10 : Value
  c11 : Value
  c12 : Value
  c13 : Value
  c14 : Value
def imgA (m : Img) (v : Value) : Array Value := #[m.c0, m.c1, v, m.c3, m.c4, m.c5, m.c6, m.c7, m.c8, m.c9, m.c10, m.c11, m.c12, m.c13, m.c14]
def segA (s : Sg) : Array Value := #[.int .i64 s.at_, .int .i64 s.sz, .slice s.A s.b.length s.c, .int .i64 s.pm]
def unAllW (L : List Rg) (base : Int) (l : List Sg) : List Rg := l.foldl (fun L s => (unmapS L (wrap64 (base + s.at_))).1) L
def unErrW (base : Int) : List Rg → Int → List Sg → Int
  | _, e, [] => e
  | L, e, s :: l => unErrW base (unmapS L (wrap64 (base + s.at_))).1 (if e = 0 then (unmapS L (wrap64 (base + s.at_))).2 else e) l
theorem unAllW_eq {base : Int} : ∀ (l : List Sg) (L : List Rg), (∀ s ∈ l, wrap64 (base + s.at_) = base + s.at_) → unAllW L base l = unAll L base l
  | [], L, h => rfl
  | s :: l, L, h => by
    show unAllW (unmapS L (wrap64 (base + s.at_))).1 base l = unAll (unmapS L (base + s.at_)).1 base l
    rw [h s (by simp)]
    exact unAllW_eq l _ (fun t ht => h t (by simp [ht]))
theorem unErrW_eq {base : Int} : ∀ (l : List Sg) (L : List Rg) (e : Int), (∀ s ∈ l, wrap64 (base + s.at_) = base + s.at_) → unErrW base L e l = unErr L base e l
  | [], L, e, h => rfl
  | s :: l, L, e, h => by
    unfold unErrW unErr
    rw [h s (by simp)]
    exact unErrW_eq l _ _ (fun t ht => h t (by simp [ht]))

set_option maxRecDepth 100000 in
set_option maxHeartbeats 4000000 in
theorem pup_any (n : Int) (h0 : -1048576 ≤ n) (h1 : n ≤ 524288) (w : World) : Calls Try.prog 43 #[.int .i64 n] w fun e w' => e = .returned (.int .i64 (upT n)) ∧ w = w' := by
  have hb := upT_bound h0 h1
  have HE : Hid (upT n = (n + 64 - 1).tdiv 64 * 64) := Lib.hid (by unfold upT; rw [show n + 64 - 1 = n + 63 by omega])
  rw [HE.out] at hb
  rw [HE.out]
  clear HE
  obtain ⟨q, hq⟩ : ∃ q, (n + 64 - 1).tdiv 64 = q := ⟨_, rfl⟩
  rw [hq] at hb ⊢
  go_enter Try.func43, Try.ntmps43
  go_wp2
  try simp only [hq]
  go_ret
  exact ⟨rfl, rfl⟩

set_option maxRecDepth 100000 in
set_option maxHeartbeats 4000000 in
theorem extent_any (m : Img) (vs : Value) (l : List Sg) (P : Nat → Prop) (w : World) (h : SegsAt w P vs l) (hok : ∀ s ∈ l, SgOk s) : Calls Try.prog 20 #[.agg (imgA m vs)] w fun e w' => e = .returned (.int .i64 (extS l)) ∧ Below w.heap.size w w' := by
  have HR := Lib.hid h.rows
  have HOK := Lib.hid hok
  clear h hok
  rw [show imgA m vs = #[m.c0, m.c1, vs, m.c3, m.c4, m.c5, m.c6, m.c7, m.c8, m.c9, m.c10, m.c11, m.c12, m.c13, m.c14] from rfl]
  have M0 := Lib.hid ((Has.start (Below.refl w.heap.size w) (Nat.le_refl _)).newcel 39 #[m.c0, m.c1, vs, m.c3, m.c4, m.c5, m.c6, m.c7, m.c8, m.c9, m.c10, m.c11, m.c12, m.c13, m.c14])
  go_enter Try.func20, Try.ntmps20
  go_upto_region 1 with (fail)
  obtain ⟨W, hW⟩ : ∃ W, (w.alloc (.cells #[m.c0, m.c1, vs, m.c3, m.c4, m.c5, m.c6, m.c7, m.c8, m.c9, m.c10, m.c11, m.c12, m.c13, m.c14] 39)) = W := ⟨_, rfl⟩
  rw [hW] at M0 ⊢
  clear  hW
  generalize hB : w.heap.size = b0 at M0 ⊢
  have HB := Lib.hid hB
  clear hB
  have M1 : Hid (Has b0 w W (Star (Cel b0 39 (imgA m vs)) Emp)) := M0
  clear M0
  obtain ⟨A, c, hvs, hc, hm, hrow⟩ := HR.out
  have im2 : W.cell? ⟨b0, 2, none⟩ = some (.slice A l.length c) := M1.out.cellat b0 2 (by rw [← hvs]; rfl)
  have HROW := Lib.hid hrow
  clear hrow HR hvs
  unfold maxLen at hm
  go_wp2_with fail
  go_loopw [3, 9] (fun v i wr => ∃ k : Nat, k ≤ l.length ∧ i = .int .i64 k ∧ v = .int .i64 (extS (l.take k)) ∧ Hid (Has b0 w wr (Star (Cel b0 39 (imgA m vs)) Emp))) (fun _ i _ => l.length - (intOf i).toNat)
  case atStart => exact ⟨0, Nat.zero_le _, rfl, rfl, M1⟩
  case round =>
    obtain ⟨k, hk, rfl, rfl, M2⟩ := hrel
    by_cases hkn : k < l.length
    · obtain ⟨s, hs⟩ : ∃ s, l[k]? = some s := ⟨_, List.getElem?_eq_getElem hkn⟩
      obtain ⟨b, off, hA, _, hlt, hcell0⟩ := HROW.out k s hs
      have hso := HOK.out s (List.mem_of_getElem? hs)
      have hbd := extS_bound (l.take k) (fun t ht => HOK.out t (List.mem_of_mem_take ht))
      have hub := upT_bound hso.s0 hso.s1
      have a0 := hso.a0
      have a1 := hso.a1
      have hcell : ∀ j u, (segC s)[j]? = some u → wr.cell? ⟨b, off + k * 4 + j, none⟩ = some u := fun j u hu => (M2.out.bel.cell (p := ⟨b, off + k * 4 + j, none⟩) (by rw [← HB.out]; exact hlt)).trans (hcell0 j u hu)
      have HSN := Lib.hid (extS_snoc l k s hs)
      have CU := Lib.hid (fun w3 => pup_any s.sz hso.s0 hso.s1 w3)
      subst hA
      clear hlt hcell0 hso
      generalize extS (l.take k) = X at hbd HSN ⊢
      generalize upT s.sz = u at hub HSN CU
      have cel : ∀ j v, (segA s).toList[j]? = some v → wr.cell? ⟨b, off + k * 4 + j, none⟩ = some v := fun j v hv => hcell j v hv
      have Na := Lib.hid (M2.out.newcel 50 #[.int .i64 0, .int .i64 0, .slice none 0 0, .int .i64 0])
      have Nb := Lib.hid (Na.out.rowc wr.heap.size (segA s))
      go_upto_region 5 with (first | (refine wpList_partW rfl 50 _ rfl b (off + k * 4) rfl (segA s) _ cel Try.underlying50 rfl (by kernel_rfl) ?_) | (refine wpList_store_row rfl 50 _ _ rfl wr.heap.size (segA s) rfl rfl 50 #[.int .i64 0, .int .i64 0, .slice none 0 0, .int .i64 0] (Na.out.getc wr.heap.size) (by kernel_rfl) rfl (by kernel_rfl) ?_))
      obtain ⟨W5, hW⟩ : ∃ W5, (wr.alloc (.cells #[.int .i64 0, .int .i64 0, .slice none 0 0, .int .i64 0] 50)).setRow wr.heap.size (segA s) = W5 := ⟨_, rfl⟩
      have N5 := Nb
      rw [hW] at N5 ⊢
      clear hW Na Nb cel
      generalize wr.heap.size = q at N5 ⊢
      have s0 : W5.cell? ⟨q, 0, none⟩ = some (.int .i64 s.at_) := N5.out.cellat q 0 rfl
      have s1 : W5.cell? ⟨q, 1, none⟩ = some (.int .i64 s.sz) := N5.out.cellat q 1 rfl
      have s2 : W5.cell? ⟨q, 2, none⟩ = some (.slice s.A s.b.length s.c) := N5.out.cellat q 2 rfl
      have s3 : W5.cell? ⟨q, 3, none⟩ = some (.int .i64 s.pm) := N5.out.cellat q 3 rfl
      generalize s.at_ = x at a0 a1 HSN s0
      have M6 := Lib.hid ((N5.out.stay (Below.refl _ _).drew).norm (Star (Cel b0 39 (imgA m vs)) Emp))
      clear N5 s2 s3 M2
      go_wp2_with fail
      go_region_with (go_at_call 43; refine (CU.out _).mono ?_; rintro e w6 ⟨rfl, rfl⟩)
      all_goals
        have i1 : intOf (Value.int .i64 ((k : Int) + 1)) = (k : Int) + 1 := rfl
        have i2 : intOf (Value.int .i64 (k : Int)) = (k : Int) := rfl
        first
          | exact ⟨⟨k + 1, hkn, rfl, by rw [HSN.out], M6⟩, by rw [i1, i2]; omega⟩
          | (go_wp2_with fail
             exact ⟨⟨k + 1, hkn, rfl, by rw [HSN.out], M6⟩, by rw [i1, i2]; omega⟩)
          | (go_wp2_with fail
             go_roundw
             case rel => exact ⟨k + 1, hkn, rfl, by rw [HSN.out], M6⟩
             case measure => omega)
    · have hkl : k = l.length := by omega
      have HE : Hid (extS (l.take k) = extS l) := Lib.hid (by rw [hkl, List.take_length])
      have MZ := Lib.hid M2.out.bel
      have hge : ¬ ((k : Int) < (l.length : Int)) := by omega
      clear M2
      rw [HE.out]
      go_wp2
      go_ret
      exact ⟨rfl, by rw [HB.out]; exact MZ.out⟩

section
variable {B : Nat} {w wr w' : World} {a : Nat} {L : List Rg} {Y : Res}
set_option maxRecDepth 100000 in
set_option maxHeartbeats 4000000 in
theorem punmap_own [hY : Fr Y] (h : Has B w wr (Star (Sp a L) Y)) (base : Int) (hbase : I64 base) (m : Img) (vs : Value) (l : List Sg) (hs : SegsAt w (fun k => k < B) vs l) :
    Calls Try.prog 17 #[.pointer (some ⟨a, 0, none⟩), .int .i64 base, .agg (imgA m vs)] wr fun e w' => e = .returned (.int .i64 (unErrW base L 0 l)) ∧ Has B w w' (Star (Sp a (unAllW L base l)) Y) := by
  have HR := Lib.hid hs.rows
  obtain ⟨R, hR⟩ : ∃ R, (unErrW base L 0 l, unAllW L base l) = R := ⟨_, rfl⟩
  have HRR := Lib.hid hR
  have h1 : unErrW base L 0 l = R.1 := by rw [← hR]
  have h2 : unAllW L base l = R.2 := by rw [← hR]
  rw [h1, h2]
  clear hs hR h1 h2
  rw [show imgA m vs = #[m.c0, m.c1, vs, m.c3, m.c4, m.c5, m.c6, m.c7, m.c8, m.c9, m.c10, m.c11, m.c12, m.c13, m.c14] from rfl]
  have M0 := Lib.hid (h.newcel 39 #[m.c0, m.c1, vs, m.c3, m.c4, m.c5, m.c6, m.c7, m.c8, m.c9, m.c10, m.c11, m.c12, m.c13, m.c14])
  go_enter Try.func17, Try.ntmps17
  go_upto_region 1 with (fail)
  obtain ⟨W, hW⟩ : ∃ W, (wr.alloc (.cells #[m.c0, m.c1, vs, m.c3, m.c4, m.c5, m.c6, m.c7, m.c8, m.c9, m.c10, m.c11, m.c12, m.c13, m.c14] 39)) = W := ⟨_, rfl⟩
  rw [hW] at M0 ⊢
  clear  hW
  generalize wr.heap.size = b0 at M0 ⊢
  have M1 : Hid (Has B w W (Star (Cel b0 39 (imgA m vs)) (Star (Sp a L) Y))) := M0
  clear M0
  clear h
  obtain ⟨A, c, hvs, hc, hm, hrow⟩ := HR.out
  have im2 : W.cell? ⟨b0, 2, none⟩ = some (.slice A l.length c) := M1.out.cellat b0 2 (by rw [← hvs]; rfl)
  have HROW := Lib.hid hrow
  clear hrow HR hvs
  unfold maxLen at hm
  go_wp2_with fail
  go_loopw [7, 14] (fun v i wr => ∃ (k : Nat) (e : Int) (Lk : List Rg), k ≤ l.length ∧ i = .int .i64 k ∧ v = .int .i64 e ∧ Hid (Has B w wr (Star (Sp a Lk) (Star (Cel b0 39 (imgA m vs)) Y))) ∧ Hid ((unErrW base Lk e (l.drop k), unAllW Lk base (l.drop k)) = R)) (fun _ i _ => l.length - (intOf i).toNat)
  case atStart => exact ⟨0, 0, L, Nat.zero_le _, rfl, rfl, Lib.hid (M1.out.norm (Star (Sp a L) (Star (Cel b0 39 (imgA m vs)) Y))), HRR⟩
  case round =>
    obtain ⟨k, e, Lk, hk, rfl, rfl, M2, HK⟩ := hrel
    by_cases hkn : k < l.length
    · obtain ⟨s, hs⟩ : ∃ s, l[k]? = some s := ⟨_, List.getElem?_eq_getElem hkn⟩
      obtain ⟨b, off, hA, hbB, hlt, hcell0⟩ := HROW.out k s hs
      have hcell : ∀ j u, (segC s)[j]? = some u → wr.cell? ⟨b, off + k * 4 + j, none⟩ = some u := fun j u hu => (M2.out.bel.cell (p := ⟨b, off + k * 4 + j, none⟩) hbB).trans (hcell0 j u hu)
      have HD : Hid (l.drop k = s :: l.drop (k + 1)) := Lib.hid (by
        obtain ⟨h1, h2⟩ := List.getElem?_eq_some_iff.1 hs
        rw [List.drop_eq_getElem_cons h1, h2])
      have HK2 := Lib.hid HK.out
      rw [HD.out] at HK2
      subst hA
      clear hlt hcell0 HD HK hbB
      have cel : ∀ j v, (segA s).toList[j]? = some v → wr.cell? ⟨b, off + k * 4 + j, none⟩ = some v := fun j v hv => hcell j v hv
      have Na := Lib.hid (M2.out.newcel 50 #[.int .i64 0, .int .i64 0, .slice none 0 0, .int .i64 0])
      have Nb := Lib.hid (Na.out.rowc wr.heap.size (segA s))
      go_upto_region 5 with (first | (refine wpList_partW rfl 50 _ rfl b (off + k * 4) rfl (segA s) _ cel Try.underlying50 rfl (by kernel_rfl) ?_) | (refine wpList_store_row rfl 50 _ _ rfl wr.heap.size (segA s) rfl rfl 50 #[.int .i64 0, .int .i64 0, .slice none 0 0, .int .i64 0] (Na.out.getc wr.heap.size) (by kernel_rfl) rfl (by kernel_rfl) ?_))
      obtain ⟨W5, hW⟩ : ∃ W5, (wr.alloc (.cells #[.int .i64 0, .int .i64 0, .slice none 0 0, .int .i64 0] 50)).setRow wr.heap.size (segA s) = W5 := ⟨_, rfl⟩
      have N5 := Nb
      rw [hW] at N5 ⊢
      clear hW Na Nb cel
      generalize wr.heap.size = q at N5 ⊢
      have s0 : W5.cell? ⟨q, 0, none⟩ = some (.int .i64 s.at_) := N5.out.cellat q 0 rfl
      have s1 : W5.cell? ⟨q, 1, none⟩ = some (.int .i64 s.sz) := N5.out.cellat q 1 rfl
      have s2 : W5.cell? ⟨q, 2, none⟩ = some (.slice s.A s.b.length s.c) := N5.out.cellat q 2 rfl
      have s3 : W5.cell? ⟨q, 3, none⟩ = some (.int .i64 s.pm) := N5.out.cellat q 3 rfl
      have C1 := Lib.hid (own_unmap (N5.out.pick (Sp a Lk)) (wrap64 (base + s.at_)))
      have HK3 : Hid ((unErrW base (unmapS Lk (wrap64 (base + s.at_))).1 (if e = 0 then (unmapS Lk (wrap64 (base + s.at_))).2 else e) (l.drop (k + 1)), unAllW (unmapS Lk (wrap64 (base + s.at_))).1 base (l.drop (k + 1))) = R) := HK2
      clear HK2
      generalize unmapS Lk (wrap64 (base + s.at_)) = Q at C1 HK3
      obtain ⟨L2, f⟩ := Q
      go_wp2_with fail
      refine (C1.out).mono ?_
      rintro e6 w6 ⟨rfl, m6⟩
      have M6 := Lib.hid (m6.norm (Star (Sp a L2) (Star (Cel b0 39 (imgA m vs)) Y)))
      clear C1 N5 s0 s1 s2 s3 M2 m6
      have i1 : intOf (Value.int .i64 ((k : Int) + 1)) = (k : Int) + 1 := rfl
      have i2 : intOf (Value.int .i64 (k : Int)) = (k : Int) := rfl
      by_cases hf : f = 0
      · have hfb : (f != 0) = false := by simp [hf]
        have HK4 : Hid ((unErrW base L2 e (l.drop (k + 1)), unAllW L2 base (l.drop (k + 1))) = R) := Lib.hid (by
          rw [← HK3.out]
          simp only [hf]
          by_cases he : e = 0
          · rw [if_pos he, he]
          · rw [if_neg he])
        clear HK3
        go_wp2_with fail
        go_roundw
        case rel => exact ⟨k + 1, e, L2, hkn, rfl, rfl, M6, HK4⟩
        case measure => omega
      · have hfb : (f != 0) = true := bne_iff_ne.2 hf
        by_cases he : e = 0
        · have heb : (e == 0) = true := beq_iff_eq.2 he
          have HK4 : Hid ((unErrW base L2 f (l.drop (k + 1)), unAllW L2 base (l.drop (k + 1))) = R) := Lib.hid (by
            rw [← HK3.out, if_pos he])
          clear HK3 he
          go_wp2_with fail
          go_roundw
          case rel => exact ⟨k + 1, f, L2, hkn, rfl, rfl, M6, HK4⟩
          case measure => omega
        · have heb : (e == 0) = false := beq_eq_false_iff_ne.2 he
          have HK4 : Hid ((unErrW base L2 e (l.drop (k + 1)), unAllW L2 base (l.drop (k + 1))) = R) := Lib.hid (by
            rw [← HK3.out, if_neg he])
          clear HK3
          go_wp2_with fail
          go_roundw
          case rel => exact ⟨k + 1, e, L2, hkn, rfl, rfl, M6, HK4⟩
          case measure => omega
    · have hkl : k = l.length := by omega
      have HE : Hid (R = (e, Lk)) := Lib.hid (by rw [← HK.out, hkl, List.drop_length]; rfl)
      have MZ := Lib.hid (M2.out.back (Sp a Lk) Y)
      have hge : ¬ ((k : Int) < (l.length : Int)) := by omega
      clear M2 HK
      go_wp2
      go_ret
      exact ⟨by rw [HE.out]; first | done | rfl, by rw [HE.out]; exact MZ.out⟩
end
end Go.Proofs.Ytlkelfaokbdddaa
