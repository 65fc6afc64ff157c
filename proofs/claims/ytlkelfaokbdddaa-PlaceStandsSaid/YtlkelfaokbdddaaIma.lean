/-
  Layer 9: the document's image that may be: Up, Stands.
  Conditions: none. (My own text.)
-/
import Derived.Test.YtlkelfaokbdddaaPlr
import Derived.Test.YtlkelfaokbdddaaPcn
namespace Go.Proofs.Ytlkelfaokbdddaa
open Go.RowKit Spm
set_option linter.unusedVariables false
set_option linter.unusedSimpArgs false

/-- It answers some bool, and leaves what was there. -/
def BoolE (w : World) (e : Ending) (w' : World) : Prop := (∃ b, e = .returned (.bool b)) ∧ Below w.heap.size w w'
set_option maxRecDepth 100000 in
set_option maxHeartbeats 4000000 in
theorem up09_any (n : Int) (h0 : 0 ≤ n) (h1 : n ≤ 1048576) (w : World) : Calls Try.prog 55 #[.int .i64 n] w fun e w' => e = .returned (.int .i64 (up n)) ∧ w = w' := by
  have hm := Int.tmod_eq_emod_of_nonneg (b := 64) h0
  obtain ⟨r, hr⟩ : ∃ r, n.tmod 64 = r := ⟨_, rfl⟩
  rw [hr] at hm
  have hr0 : 0 ≤ r ∧ r < 64 := by omega
  by_cases hz : r = 0
  · have HE : Hid (up n = n) := Lib.hid (by unfold up; omega)
    rw [HE.out]
    have hzb : (r == 0) = true := beq_iff_eq.2 hz
    clear hm
    go_enter Try.func55, Try.ntmps55
    go_wp2
    go_ret
    exact ⟨rfl, rfl⟩
  · have HE : Hid (up n = n - r + 64) := Lib.hid (by unfold up; omega)
    rw [HE.out]
    have hzb : (r == 0) = false := beq_eq_false_iff_ne.2 hz
    clear hm
    go_enter Try.func55, Try.ntmps55
    go_wp2
    go_ret
    exact ⟨rfl, rfl⟩

set_option maxRecDepth 100000 in
set_option maxHeartbeats 4000000 in
theorem stands_any (m : Img) (vs : Value) (l : List Sg) (P : Nat → Prop) (x n p : Int) (w : World) (h : SegsAt w P vs l) : Calls Try.prog 57 #[.agg (imgA m vs), .int .i64 x, .int .i64 n, .int .i64 p] w (BoolE w) := by
  have HR := Lib.hid h.rows
  clear h
  rw [show imgA m vs = #[m.c0, m.c1, vs, m.c3, m.c4, m.c5, m.c6, m.c7, m.c8, m.c9, m.c10, m.c11, m.c12, m.c13, m.c14] from rfl]
  have M0 := Lib.hid ((Has.start (Below.refl w.heap.size w) (Nat.le_refl _)).newcel 39 #[m.c0, m.c1, vs, m.c3, m.c4, m.c5, m.c6, m.c7, m.c8, m.c9, m.c10, m.c11, m.c12, m.c13, m.c14])
  go_enter Try.func57, Try.ntmps57
  go_upto_region 1 with (fail)
  obtain ⟨W, hW⟩ : ∃ W, (w.alloc (.cells #[m.c0, m.c1, vs, m.c3, m.c4, m.c5, m.c6, m.c7, m.c8, m.c9, m.c10, m.c11, m.c12, m.c13, m.c14] 39)) = W := ⟨_, rfl⟩
  rw [hW] at M0 ⊢
  clear  hW
  generalize hB : w.heap.size = b0 at M0 ⊢
  have HB := Lib.hid hB
  clear hB
  have M1 : Hid (Has b0 w W (Star (Cel b0 39 (imgA m vs)) Emp)) := M0
  clear M0
  obtain ⟨A, c, hvs, hc, hm, hrow⟩ := HR.out
  have HVS := Lib.hid hvs
  have HROW := Lib.hid hrow
  clear hrow HR hvs
  unfold maxLen at hm
  go_wp2_with fail
  go_loopw [9] (fun i wr => ∃ k : Nat, k ≤ l.length ∧ i = .int .i64 k ∧ Hid (Has b0 w wr (Star (Cel b0 39 (imgA m vs)) Emp))) (fun i _ => l.length - (intOf i).toNat)
  case atStart => exact ⟨0, Nat.zero_le _, rfl, M1⟩
  case round =>
    obtain ⟨k, hk, rfl, M2⟩ := hrel
    have i1 : intOf (Value.int .i64 ((k : Int) + 1)) = (k : Int) + 1 := rfl
    have i2 : intOf (Value.int .i64 (k : Int)) = (k : Int) := rfl
    by_cases hkn : k < l.length
    · obtain ⟨s, hs⟩ : ∃ s, l[k]? = some s := ⟨_, List.getElem?_eq_getElem hkn⟩
      obtain ⟨b, off, hA, _, hlt, hcell0⟩ := HROW.out k s hs
      have hcell : ∀ j u, (segC s)[j]? = some u → wr.cell? ⟨b, off + k * 4 + j, none⟩ = some u := fun j u hu => (M2.out.bel.cell (p := ⟨b, off + k * 4 + j, none⟩) (by rw [← HB.out]; exact hlt)).trans (hcell0 j u hu)
      rw [hA] at HVS
      clear hlt hcell0 hA hs
      have im2 : wr.cell? ⟨b0, 2, none⟩ = some (.slice (some ⟨b, off, none⟩) l.length c) := M2.out.cellat b0 2 (by rw [← HVS.out]; rfl)
      have cel : ∀ j v, (segA s).toList[j]? = some v → wr.cell? ⟨b, off + k * 4 + j, none⟩ = some v := fun j v hv => hcell j v hv
      have Na := Lib.hid (M2.out.newcel 50 #[.int .i64 0, .int .i64 0, .slice none 0 0, .int .i64 0])
      have Nb := Lib.hid (Na.out.rowc wr.heap.size (segA s))
      go_upto_region 5 with (first | (refine wpList_partW rfl 50 _ rfl b (off + k * 4) rfl (segA s) _ cel Try.underlying50 rfl (by kernel_rfl) ?_) | (refine wpList_store_row rfl 50 _ _ rfl wr.heap.size (segA s) rfl rfl 50 #[.int .i64 0, .int .i64 0, .slice none 0 0, .int .i64 0] (Na.out.getc wr.heap.size) (by kernel_rfl) rfl (by kernel_rfl) ?_))
      obtain ⟨W5, hW⟩ : ∃ W5, (wr.alloc (.cells #[.int .i64 0, .int .i64 0, .slice none 0 0, .int .i64 0] 50)).setRow wr.heap.size (segA s) = W5 := ⟨_, rfl⟩
      have N5 := Nb
      rw [hW] at N5 ⊢
      clear hW Na Nb cel im2
      generalize wr.heap.size = q at N5 ⊢
      have s0 : W5.cell? ⟨q, 0, none⟩ = some (.int .i64 s.at_) := N5.out.cellat q 0 rfl
      have s1 : W5.cell? ⟨q, 1, none⟩ = some (.int .i64 s.sz) := N5.out.cellat q 1 rfl
      have s2 : W5.cell? ⟨q, 2, none⟩ = some (.slice s.A s.b.length s.c) := N5.out.cellat q 2 rfl
      have s3 : W5.cell? ⟨q, 3, none⟩ = some (.int .i64 s.pm) := N5.out.cellat q 3 rfl
      have M6 := Lib.hid (N5.out.norm (Star (Cel b0 39 (imgA m vs)) Emp))
      have MZ := Lib.hid N5.out.bel
      clear N5 M2 hcell s2
      generalize s.at_ = sa at s0
      generalize s.sz = sz at s1
      generalize s.pm = sp at s3
      go_wp2_with fail
      all_goals first
        | (go_ret
           exact ⟨⟨_, rfl⟩, by rw [HB.out]; exact MZ.out⟩)
        | exact ⟨⟨k + 1, hkn, rfl, M6⟩, by rw [i1, i2]; omega⟩
    · have im2 : wr.cell? ⟨b0, 2, none⟩ = some (.slice A l.length c) := M2.out.cellat b0 2 (by rw [← HVS.out]; rfl)
      have hge : ¬ ((k : Int) < (l.length : Int)) := by omega
      have MZ := Lib.hid M2.out.bel
      clear M2
      go_wp2
      go_ret
      exact ⟨⟨_, rfl⟩, by rw [HB.out]; exact MZ.out⟩
end Go.Proofs.Ytlkelfaokbdddaa
