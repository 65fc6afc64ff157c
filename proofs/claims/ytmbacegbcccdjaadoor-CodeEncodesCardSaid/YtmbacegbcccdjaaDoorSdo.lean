/-
  Layer 1's law: Owned: lists of bytes that came out are their owner's: what it keeps along its rows (plain).
  Conditions: none. (My own text.)
-/
import Derived.Test.YtmbacegbcccdjaaDoorSp5
import Derived.Deep.AppendLies
namespace Go.Proofs.YtmbacegbcccdjaaDoor
open Go.RowKit Spm
set_option linter.unusedVariables false
set_option linter.unusedSimpArgs false

def mkV (i : Nat) : Value := .int .u8 (1 + (i : Int) % 250)

/-- Bytes that all are one mark. -/
def Marks (w : World) (v : Value) (m : Value) (Q : Nat → Prop) : Prop :=
  ∃ A n c, v = .slice A n c ∧ n ≤ c ∧ n ≤ 281474976710656 ∧ ∀ j, j < n → ∃ b, A = some ⟨b, 0, none⟩ ∧ Q b ∧ w.cell? ⟨b, j, none⟩ = some m
theorem Marks.keep {w w' : World} {v m : Value} {Q Q' : Nat → Prop} (h : Marks w v m Q) (hk : ∀ b, Q b → b < w.heap.size → w'.heap[b]? = w.heap[b]? ∧ Q' b) : Marks w' v m Q' := by
  obtain ⟨A, n, c, h1, h2, h3, h4⟩ := h
  refine ⟨A, n, c, h1, h2, h3, fun j hj => ?_⟩
  obtain ⟨b, e1, e2, e3⟩ := h4 j hj
  obtain ⟨k1, k2⟩ := hk b e2 (block_lt_of_cell e3)
  exact ⟨b, e1, k2, (World.cell?_of_block (a := ⟨b, j, none⟩) k1).trans e3⟩
theorem Marks.of_own {w : World} {v m : Value} {n : Nat} (h : w.ownsRow 0 5 1 v n (List.replicate n m)) (hn : n ≤ 281474976710656) : Marks w v m (fun b => v.ownBlock = some b) := by
  rcases h.2 with ⟨hv, h0⟩ | ⟨g, cap, cur, hv, hb, hg, hl, hm, hs, ht⟩
  · exact ⟨none, 0, 0, hv, Nat.le_refl _, Nat.zero_le _, fun j hj => absurd hj (Nat.not_lt_zero _)⟩
  · refine ⟨some ⟨g, 0, none⟩, n, cap, hv, hl, hn, fun j hj => ⟨g, rfl, by rw [hv]; rfl, ?_⟩⟩
    have := h.cells (g := g) (by rw [hv]; rfl) j m (by rw [List.getElem?_replicate, if_pos hj])
    rwa [Addr.add_lit, Nat.zero_add] at this

/-- The rows that came out: apart from one another, and from the block that lists them. -/
structure ORows (w : World) (R : Nat) (rows : List (Value × List UInt8)) : Prop where
  lt : R < w.heap.size
  sep : ∀ (j : Nat) (q : Value × List UInt8), rows[j]? = some q → q.1.ownBlock ≠ some R
  old : ∀ (j : Nat) (q : Value × List UInt8), rows[j]? = some q → ∀ b, q.1.ownBlock = some b → b < w.heap.size
  dis : ∀ (i j : Nat) (q q' : Value × List UInt8), rows[i]? = some q → rows[j]? = some q' → i ≠ j → ∀ b, q.1.ownBlock = some b → q'.1.ownBlock ≠ some b

structure OInv (w wr : World) (R : Nat) (rows : List (Value × List UInt8)) (k : Nat) (vL : Value) (ents : List Value) : Prop where
  box : Blk wr R 31 (rows.map (·.1)).toArray
  own : wr.ownsRow w.heap.size 31 1 vL (2 * k) ents
  ent : ∀ i e, ents[i]? = some e → Marks wr e (mkV (i / 2)) (fun b => vL.ownBlock ≠ some b ∧ ∀ (j : Nat) (q : Value × List UInt8), k ≤ j → rows[j]? = some q → q.1.ownBlock ≠ some b)
  row : ∀ (j : Nat) (q : Value × List UInt8), k ≤ j → rows[j]? = some q → Bys wr 0 q.1 q.2
  keeps : Keeps (fun b => ∃ q ∈ rows, q.1.ownBlock = some b) w wr

theorem OInv.step {w wr w2 w4 : World} {R k n : Nat} {rows : List (Value × List UInt8)} {vL vg v4 : Value} {ents : List Value} {q : Value × List UInt8} {o : Obj} (hO : ORows w R rows) (h : OInv w wr R rows k vL ents) (hq : rows[k]? = some q)
    (hk1 : Keeps (fun b => q.1.ownBlock = some b) wr w2) (hm : Marks w2 q.1 (mkV k) (fun b => q.1.ownBlock = some b))
    (hg : w2.ownsRow 0 5 1 vg n (List.replicate n (mkV k))) (hn : n ≤ 281474976710656) (hgb : ∀ b, vg.ownBlock = some b → q.1.ownBlock = some b ∨ wr.heap.size ≤ b)
    (ho : w4.ownsRow w.heap.size 31 1 v4 (2 * k + 2) (ents ++ [vg, q.1])) (hgr : (w2.alloc o).grownBy w4 vL.ownBlock) (hat : v4.ownBlock = vL.ownBlock ∨ v4.ownBlock = some (w2.alloc o).heap.size) :
    OInv w w4 R rows (k + 1) v4 (ents ++ [vg, q.1]) := by
  have hsz : w.heap.size ≤ wr.heap.size := h.keeps.size
  have hsz2 := hk1.size
  have hL : ∀ b, vL.ownBlock = some b → w.heap.size ≤ b ∧ b < wr.heap.size := h.own.lt
  have hs4 : (w2.alloc o).heap.size = w2.heap.size + 1 := by simp
  have h24 : ∀ b, b < w2.heap.size → vL.ownBlock ≠ some b → w4.heap[b]? = w2.heap[b]? := fun b hb hne =>
    (hgr.block b (by omega) (fun e => hne e.symm)).trans (heap_alloc_old w2 o hb)
  have h4 : ∀ b, b < wr.heap.size → v4.ownBlock = some b → vL.ownBlock = some b := fun b hb hv => by
    rcases hat with hat | hat
    · rw [← hat]; exact hv
    · rw [hat] at hv; simp only [Option.some.injEq] at hv; omega
  have hv4 : ∀ b, b < w2.heap.size → v4.ownBlock = some b → vL.ownBlock = some b := fun b hb hv => by
    rcases hat with hat | hat
    · rw [← hat]; exact hv
    · rw [hat] at hv; simp only [Option.some.injEq] at hv; omega
  have hqo := hO.old k q hq
  have hel := h.own.1
  rw [Nat.mul_one] at hel
  refine ⟨?_, by rw [show 2 * (k + 1) = 2 * k + 2 by omega]; exact ho, fun i e hi => ?_, fun j q' hj hq' => ?_, ?_⟩
  · have h1 : w2.heap[R]? = wr.heap[R]? := hk1.block R (Nat.lt_of_lt_of_le hO.lt hsz) (hO.sep k q hq)
    have h2 : w4.heap[R]? = w2.heap[R]? := h24 R (by have := hO.lt; omega) (fun e => by have := (hL R e).1; have := hO.lt; omega)
    exact h2.trans (h1.trans h.box)
  · rcases Nat.lt_or_ge i (2 * k) with hlt | hge
    · rw [List.getElem?_append_left (by omega)] at hi
      refine (h.ent i e hi).keep fun b ⟨b1, b2⟩ hb => ⟨(h24 b (by omega) b1).trans (hk1.block b hb (b2 k q (Nat.le_refl _) hq)), fun hv => b1 (h4 b hb hv), fun j q' hj hq' => b2 j q' (by omega) hq'⟩
    · rw [List.getElem?_append_right (by omega), hel] at hi
      obtain hi0 | hi1 | hi2 : i - 2 * k = 0 ∨ i - 2 * k = 1 ∨ 2 ≤ i - 2 * k := by omega
      · rw [hi0] at hi
        simp only [List.getElem?_cons_zero, Option.some.injEq] at hi
        subst hi
        rw [show i / 2 = k by omega]
        refine (Marks.of_own hg hn).keep fun b hb hlt => ?_
        have hne : vL.ownBlock ≠ some b := fun e => by
          have := hL b e
          rcases hgb b hb with h1 | h1
          · have := hqo b h1; omega
          · omega
        refine ⟨h24 b hlt hne, fun hv => hne (hv4 b hlt hv), fun j q' hj hq' he => ?_⟩
        rcases hgb b hb with h1 | h1
        · exact hO.dis k j q q' hq hq' (by omega) b h1 he
        · have := hO.old j q' hq' b he; omega
      · rw [hi1] at hi
        simp only [List.getElem?_cons_succ, List.getElem?_cons_zero, Option.some.injEq] at hi
        subst hi
        rw [show i / 2 = k by omega]
        refine hm.keep fun b hb hlt => ?_
        have hne : vL.ownBlock ≠ some b := fun e => by
          have := hL b e
          have := hqo b hb; omega
        exact ⟨h24 b hlt hne, fun hv => hne (hv4 b hlt hv), fun j q' hj hq' he => hO.dis k j q q' hq hq' (by omega) b hb he⟩
      · rw [List.getElem?_eq_none (by simpa using hi2)] at hi; cases hi
  · refine owns_block (h.row j q' (by omega) hq') fun b hb => ?_
    have hbo := hO.old j q' hq' b hb
    exact (h24 b (by omega) (fun e => by have := (hL b e).1; omega)).trans (hk1.block b (by omega) (fun e => hO.dis k j q q' hq hq' (by omega) b e hb))
  · refine (h.keeps.trans hk1 (fun b hb => .inl ⟨q, List.mem_of_getElem? hq, hb⟩)).trans (G := fun b => w.heap.size ≤ b) ⟨hgr.os, hgr.tape, hgr.output, by have := hgr.size; omega, fun b hb hn => ?_⟩ (fun b hb => .inr hb)
    exact h24 b hb (fun e => hn (hL b e).1)

/-! ### The appends -/
set_option maxRecDepth 100000 in
theorem own_info_row : (Tryd.prog.info? 31).map (fun i => (i.zero, i.size, i.bytes)) = some (some (.slice none 0 0), 1, 24) := by kernel_rfl
set_option maxRecDepth 100000 in
theorem own_info_byte : (Tryd.prog.info? 5).map (fun i => (i.zero, i.size, i.bytes)) = some (some (.int .u8 0), 1, 1) := by kernel_rfl

theorem append_byte {wr : World} {vg : Value} {n : Nat} {xs : List Value} (m : Value) (hm : m.oneCell' = true) (hown : wr.ownsRow 0 5 1 vg n xs) (hn : n ≤ 70368744177664) :
    ∃ g c w', (∀ ty, (Builtin.append_ #[31, 31] ty #[vg, .slice (some ⟨wr.heap.size, 0, none⟩) 1 1]).run Tryd.prog (wr.alloc (.cells #[m] 5)) = .ok (.slice (some ⟨g, 0, none⟩) (n + 1) c) w') ∧
      w'.ownsRow 0 5 1 (.slice (some ⟨g, 0, none⟩) (n + 1) c) (n + 1) (xs ++ [m]) ∧
      ((vg.ownBlock = some g ∧ Keeps (fun b => b = g) wr w') ∨ (wr.heap.size ≤ g ∧ Below wr.heap.size wr w')) := by
  obtain ⟨i0, hi, hz0, hz1, hz2⟩ := info_parts own_info_byte
  obtain ⟨W, hW⟩ : ∃ W, wr.alloc (.cells #[m] 5) = W := ⟨_, rfl⟩
  have hnew : ∀ j u, ([m] : List Value)[j]? = some u → W.cell? ((⟨wr.heap.size, 0, none⟩ : Addr).add j) = some u := by rw [← hW]; exact World.news_of_block (cs := #[m]) (heap_alloc_new _ _)
  have hone : ∀ u ∈ [m], u.oneCell' = true := by simpa using hm
  have hbel : Below wr.heap.size wr W := by rw [← hW]; exact (Below.refl _ _).alloc (Nat.le_refl _) _
  have hownW : W.ownsRow 0 5 1 vg n xs := by rw [← hW]; exact hown.alloc _
  rw [hW]
  have he : ∀ a b x, (Builtin.append_ #[31, 31] a x) = (Builtin.append_ #[31, 31] b x) := fun a b x => rfl
  have hWs : wr.heap.size ≤ W.heap.size := hbel.size
  rcases hownW.2 with ⟨rfl, rfl⟩ | ⟨g, cap, cur, rfl, hbg, hg, hnc, hcm, hcs, htake⟩
  · have hx : xs = [] := List.eq_nil_of_length_eq_zero (by simpa using hown.1)
    subst hx
    have hr := run_append_nil (P := Tryd.prog) W 31 0 5 i0 _ Tryd.underlying31 hi hz0 ⟨wr.heap.size, 0, none⟩ 1 1 [m] (by rw [hz1]; rfl) hnew (by decide) (by decide) (by rw [hz2]; decide)
    obtain ⟨v', w', hr2, h2, h3, _⟩ := run_append_own (P := Tryd.prog) W 0 31 0 5 i0 _ 1 1 Tryd.underlying31 hi hz0 hz1 hz2 rfl (by decide) _ 0 [] hownW ⟨wr.heap.size, 0, none⟩ 1 1 [m] rfl hnew hone (by decide) (by decide) (Nat.zero_le _)
    rw [hr] at hr2
    injection hr2 with e1 e2
    subst e1
    subst e2
    exact ⟨_, _, _, fun ty => by rw [he ty 0]; exact hr, h2, .inr ⟨hWs, (hbel.drew.alloc (by simp; exact hWs) _)⟩⟩
  · obtain ⟨v', w', hr2, h2, h3, _⟩ := run_append_own (P := Tryd.prog) W 0 31 0 5 i0 _ 1 1 Tryd.underlying31 hi hz0 hz1 hz2 rfl (by decide) _ n xs hownW ⟨wr.heap.size, 0, none⟩ 1 1 [m] rfl hnew hone (by unfold maxLen; omega) (by omega) (Nat.zero_le _)
    by_cases hroom : n + 1 ≤ cap
    · have hr := run_append_room (P := Tryd.prog) W 31 0 5 i0 Tryd.underlying31 hi g n cap cur hg ⟨wr.heap.size, 0, none⟩ 1 1 [m] (by rw [hz1]; rfl) hnew hone hroom (by rw [hz1, hcs]; simpa using hroom)
      rw [hr2] at hr
      injection hr with e1 e2
      subst e1
      refine ⟨_, _, w', fun ty => by rw [he ty 0]; exact hr2, h2, .inl ⟨rfl, ?_⟩⟩
      refine (Keeps.of_below (F := fun b => b = g) hbel).trans' ⟨h3.os, h3.tape, h3.output, h3.size, fun b hb hne => h3.block b hb (fun e => hne ?_)⟩
      simpa [Value.ownBlock] using e
    · have holds : ∀ j u, xs[j]? = some u → W.cell? ((⟨g, 0, none⟩ : Addr).add j) = some u := hownW.cells (g := g) rfl
      have hr := run_append_grow (P := Tryd.prog) W 31 0 5 i0 _ Tryd.underlying31 hi hz0 ⟨g, 0, none⟩ n cap xs (by rw [hz1]; simpa using hown.1) holds ⟨wr.heap.size, 0, none⟩ 1 1 [m] (by rw [hz1]; rfl) hnew (by omega) (by omega) (growslice_fits (by omega) (by rw [hz2]; omega))
      rw [hr2] at hr
      injection hr with e1 e2
      subst e1
      subst e2
      exact ⟨_, _, _, fun ty => by rw [he ty 0]; exact hr2, h2, .inr ⟨hWs, (hbel.drew.alloc (by simp; exact hWs) _)⟩⟩

theorem append_two {B : Nat} {wr : World} {vL : Value} {n : Nat} {ents : List Value} (x y : Value) (hx : x.oneCell' = true) (hy : y.oneCell' = true) (hown : wr.ownsRow B 31 1 vL n ents) (hn : n ≤ 1000000000) (hB : B ≤ wr.heap.size) :
    ∃ g c w', (∀ ty, (Builtin.append_ #[50, 50] ty #[vL, .slice (some ⟨wr.heap.size, 0, none⟩) 2 2]).run Tryd.prog (wr.alloc (.cells #[x, y] 31)) = .ok (.slice (some ⟨g, 0, none⟩) (n + 2) c) w') ∧
      w'.ownsRow B 31 1 (.slice (some ⟨g, 0, none⟩) (n + 2) c) (n + 2) (ents ++ [x, y]) ∧ (wr.alloc (.cells #[x, y] 31)).grownBy w' vL.ownBlock ∧
      (Value.ownBlock (.slice (some ⟨g, 0, none⟩) (n + 2) c) = vL.ownBlock ∨ Value.ownBlock (.slice (some ⟨g, 0, none⟩) (n + 2) c) = some (wr.alloc (.cells #[x, y] 31)).heap.size) := by
  obtain ⟨i0, hi, hz0, hz1, hz2⟩ := info_parts own_info_row
  obtain ⟨g, c, w', h1, h2, h3, h4, h5⟩ := run_append_lies (P := Tryd.prog) (wr.alloc (.cells #[x, y] 31)) 50 0 B 31 i0 _ 1 24 Tryd.underlying50 hi hz0 hz1 hz2 rfl (by decide) vL n ents (hown.alloc _) ⟨wr.heap.size, 0, none⟩ 2 2 [x, y] rfl
    (World.news_of_block (cs := #[x, y]) (heap_alloc_new _ _)) (by intro u hu; simp only [List.mem_cons, List.not_mem_nil, or_false] at hu; rcases hu with rfl | rfl; exact hx; exact hy) (by decide) (by unfold maxLen; omega) (by omega) (by simp; omega) _ rfl
  have he : ∀ a b x, (Builtin.append_ #[50, 50] a x) = (Builtin.append_ #[50, 50] b x) := fun a b x => rfl
  exact ⟨g, c, w', fun ty => by rw [he ty 0]; exact h1, h2, h3, by rcases h4 with h4 | h4; exact .inl h4.symm; exact .inr (by rw [← h4]; rfl)⟩
end Go.Proofs.YtmbacegbcccdjaaDoor
