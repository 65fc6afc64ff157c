/-
  Rows of structs that a law owns, in a slice: as a thing; reading, appending, storing.
  Layer 17, the document's state in memory: a thing; up, module, thread, Gen, Static.
  Layer 17, the document's side: thread, Gen, Static.
  Layer 17, plain: what the document's acts do, as relations; how the program's state and the document's go together.
  Layer 17, plain: what Start and Address lay in memory is the same in both; what Blocks and Static tell.
  Conditions: none. (My own text.)
-/
import Derived.Test.YtpenejigebkkmaaGreatTmg
import Derived.Test.YtpenejigebkkmaaGreatTgd
namespace Go.Proofs.YtpenejigebkkmaaGreat
open Go.RowKit Spm
set_option linter.unusedVariables false
set_option linter.unusedSimpArgs false

/-- A slice's rows, T their type, n cells a row. -/
def Rws {α : Type} (T : TypeId) (n : Nat) (cells : α → List Value) (v : Value) (l : List α) : Res := fun w F => w.ownsRow 0 T n v l.length (l.flatMap cells) ∧ ∀ g, v.ownBlock = some g → F g
instance fr_rws {α : Type} (T : TypeId) (n : Nat) (cells : α → List Value) (v : Value) (l : List α) : Fr (Rws T n cells v l) := fr_row
section
variable {α : Type} {T : TypeId} {n : Nat} {cells : α → List Value}
theorem flat_lenT (hc : ∀ x, (cells x).length = n) : ∀ l : List α, (l.flatMap cells).length = l.length * n
  | [] => by simp
  | y :: l => by rw [List.flatMap_cons, List.length_append, hc, flat_lenT hc l, List.length_cons, Nat.add_mul, Nat.one_mul, Nat.add_comm]
theorem flat_invT (hc : ∀ x, (cells x).length = n) : ∀ (l : List α) (j : Nat) (u : Value), (l.flatMap cells)[j]? = some u → ∃ i x j', l[i]? = some x ∧ (cells x)[j']? = some u ∧ j = i * n + j'
  | [], j, u, h => by simp at h
  | y :: l, j, u, h => by
    rw [List.flatMap_cons] at h
    rcases Nat.lt_or_ge j (cells y).length with hl | hl
    · rw [List.getElem?_append_left hl] at h
      exact ⟨0, y, j, rfl, h, by simp⟩
    · rw [List.getElem?_append_right hl] at h
      obtain ⟨i, x, j', h1, h2, h3⟩ := flat_invT hc l _ u h
      refine ⟨i + 1, x, j', by simpa using h1, h2, ?_⟩
      rw [hc] at h3 hl
      rw [Nat.add_mul, Nat.one_mul]
      omega
theorem flat_setT (hc : ∀ x, (cells x).length = n) {x' : α} {j : Nat} {u : Value} : ∀ (l : List α) (i : Nat) (x : α), l[i]? = some x → j < n → cells x' = (cells x).set j u → (l.set i x').flatMap cells = (l.flatMap cells).set (i * n + j) u
  | [], i, x, h, _, _ => by simp at h
  | y :: l, 0, x, h, hj, e => by
    simp at h; subst h
    rw [List.set_cons_zero, List.flatMap_cons, List.flatMap_cons, e, Nat.zero_mul, Nat.zero_add, List.set_append_left _ _ (by rw [hc]; exact hj)]
  | y :: l, i + 1, x, h, hj, e => by
    have ih := flat_setT hc l i x (by simpa using h) hj e
    rw [List.set_cons_succ, List.flatMap_cons, List.flatMap_cons, ih, List.set_append_right _ _ (by rw [hc, Nat.add_mul]; omega), hc]
    congr 2
    rw [Nat.add_mul]
    omega
theorem Rws.src (hc : ∀ x, (cells x).length = n) {w : World} {F : Nat → Prop} {v : Value} {l : List α} (h : Rws T n cells v l w F) : ∃ A c, v = .slice A l.length c ∧ l.length ≤ c ∧ c ≤ maxLen ∧ ∀ k b, l[k]? = some b → ∃ g, A = some ⟨g, 0, none⟩ ∧ g < w.heap.size ∧ ∀ j u, (cells b)[j]? = some u → w.cell? ⟨g, k * n + j, none⟩ = some u := by
  obtain ⟨h, -⟩ := h
  rcases h.2 with ⟨hv, hn⟩ | ⟨g, cap, cur, hv, hb, hg, hl, hm, hs, ht⟩
  · exact ⟨none, 0, by rw [hv, hn], by omega, Nat.zero_le _, fun k x hx => by
      rw [List.eq_nil_of_length_eq_zero hn] at hx
      simp at hx⟩
  · refine ⟨some ⟨g, 0, none⟩, cap, hv, hl, hm, fun k x hk => ⟨g, rfl, (Array.getElem?_eq_some_iff.1 hg).1, fun j u hu => ?_⟩⟩
    have h9 := h.cells (g := g) (by rw [hv]; rfl) (k * n + j) u (flat_get hc l k x hk j u hu)
    rwa [Addr.add_lit, Nat.zero_add] at h9
theorem Has.rwsv (hc : ∀ x, (cells x).length = n) {B : Nat} {w wr : World} {X : Res} {v : Value} {l : List α} (h : Has B w wr (Star (Rws T n cells v l) X)) : ∃ A c, v = .slice A l.length c ∧ l.length ≤ c ∧ c ≤ maxLen ∧ ∀ k b, l[k]? = some b → ∃ g, A = some ⟨g, 0, none⟩ ∧ g < wr.heap.size ∧ ∀ j u, (cells b)[j]? = some u → wr.cell? ⟨g, k * n + j, none⟩ = some u := by
  obtain ⟨F, ⟨F1, F2, h1, h2⟩, h3⟩ := h.own
  exact h1.src hc
theorem Has.rwsOwn {B : Nat} {w wr : World} {X : Res} {v : Value} {l : List α} (h : Has B w wr (Star (Rws T n cells v l) X)) : wr.ownsRow 0 T n v l.length (l.flatMap cells) := by
  obtain ⟨F, ⟨F1, F2, h1, h2⟩, h3⟩ := h.own
  exact h1.1
/-- Nothing yet. -/
theorem Has.rwsNil {B : Nat} {w wr : World} {X : Res} [Fr X] (h : Has B w wr X) : Has B w wr (Star (Rws T n cells (.slice none 0 0) []) X) :=
  h.add (Below.refl _ _) ⟨World.ownsRow_nil _ _ _ _, fun g hg => by cases hg⟩
theorem Has.grew {B : Nat} {w wr w' : World} {Y : Res} [hY : Fr Y] {v v' : Value} {l l' : List α} (h : Has B w wr (Star (Rws T n cells v l) Y)) (ho : w'.ownsRow 0 T n v' l'.length (l'.flatMap cells)) (hg : wr.grownBy w' v.ownBlock) (hn : v'.ownBlock = v.ownBlock ∨ v'.ownBlock = some wr.heap.size) : Has B w w' (Star (Rws T n cells v' l') Y) := by
  obtain ⟨F, ⟨F1, F2, h1, h2, hd, g1, g2⟩, h3⟩ := h.own
  have x2 := Keeps.of_grown hg
  refine ⟨⟨fun k => F k ∨ wr.heap.size ≤ k, ⟨fun k => F1 k ∨ wr.heap.size ≤ k, fun k => F2 k ∧ k < wr.heap.size, ⟨ho, fun g e => ?_⟩, hY.keep (hY.mono h2 (fun k hk hl => ⟨hk, hl⟩)) (fun k hk hl => x2.block k hl (fun a => hd k (h1.2 k a) hk.1)), fun k a b => ?_, fun k a => ?_, fun k a => .inl (g2 k a.1)⟩, fun k hk => ?_⟩, h.bel.trans (x2.below h.le (fun k hk => h3 k (g1 k (h1.2 k hk)))), Nat.le_trans h.le x2.size⟩
  · rcases hn with hn | hn
    · exact .inl (h1.2 g (by rw [← hn]; exact e))
    · rw [hn] at e
      cases e
      exact .inr (Nat.le_refl _)
  · rcases a with a | a
    · exact hd k a b.1
    · omega
  · rcases a with a | a
    · exact .inl (g1 k a)
    · exact .inr a
  · rcases hk with hk | hk
    · exact h3 k hk
    · exact Nat.le_trans h.le hk
/-- What a type of rows is. -/
structure RowT (P : Program) (t T : TypeId) (n bytes : Nat) (cells : α → List Value) : Prop where
  ut : P.underlying t = some (.slice T)
  info : ∃ z, (P.info? T).map (fun i => (i.zero, i.size, i.bytes)) = some (some z, n, bytes) ∧ z.cells.size = n
  len : ∀ x, (cells x).length = n
  one : ∀ x, ∀ u ∈ cells x, u.oneCell' = true
  pos : 0 < n
  small : bytes ≤ 1000
theorem run_append_rows {t : TypeId} {bytes : Nat} (R : RowT Tryz.prog t T n bytes cells) {w : World} {v : Value} {la : List α} (ha : w.ownsRow 0 T n v la.length (la.flatMap cells)) (A : Option Addr) (c : Nat) (lb : List α)
    (hb : ∀ i x, lb[i]? = some x → ∃ b off, A = some ⟨b, off, none⟩ ∧ ∀ j u, (cells x)[j]? = some u → w.cell? ⟨b, off + i * n + j, none⟩ = some u) (hl : la.length + lb.length ≤ 1000000) (ty : TypeId) :
    ∃ v' w', (Builtin.append_ #[t, t] ty #[v, .slice A lb.length c]).run Tryz.prog w = .ok v' w' ∧ w'.ownsRow 0 T n v' (la ++ lb).length ((la ++ lb).flatMap cells) ∧ w.grownBy w' v.ownBlock ∧ ((v'.ownBlock = v.ownBlock) ∨ v'.ownBlock = some w.heap.size) := by
  obtain ⟨z, hinfo, hzs⟩ := R.info
  obtain ⟨i0, hi, hz0, hz1, hz2⟩ := info_parts hinfo
  by_cases hn : lb = []
  · subst hn
    refine ⟨v, w, ?_, by simpa using ha, World.grownBy.refl w _, .inl rfl⟩
    rcases ha.2 with ⟨hv, hn⟩ | ⟨g, cap, cur, hv, _, hg, hnc, hcm, _⟩
    · subst hv
      cases A <;> simp [Builtin.append_, run_underlying R.ut, sizeOf, typeInfo, hi, Builtin.lenOf, Builtin.firstCells, storeCells, loadCells, loadCellsFrom]
    · subst hv
      unfold maxLen at hcm
      have h1 : la.length ≤ 9223372036854775807 := by omega
      cases A <;> simp [Builtin.append_, run_underlying R.ut, sizeOf, typeInfo, hi, Builtin.lenOf, Builtin.firstCells, storeCells, loadCells, loadCellsFrom, hnc, h1]
  · have hpos : 0 < lb.length := by cases lb with | nil => exact absurd rfl hn | cons x l => simp
    obtain ⟨b, off, hA, -⟩ := hb 0 lb[0] (List.getElem?_eq_getElem hpos)
    subst hA
    have hby : (la.length + lb.length) * bytes ≤ 140737488355328 := Nat.le_trans (Nat.mul_le_mul hl R.small) (by decide)
    obtain ⟨v', w', hr, ho, hg, hloc⟩ := append_own2 Tryz.prog w t ty T i0 z n bytes R.ut hi hz0 hz1 hz2 hzs R.pos v la.length (la.flatMap cells) ha ⟨b, off, none⟩ lb.length c (lb.flatMap cells) hpos (flat_lenT R.len lb) (fun j u hj => by
      obtain ⟨i, x, j', e1, e2, rfl⟩ := flat_invT R.len lb j u hj
      obtain ⟨b2, off2, h1, h4⟩ := hb i x e1
      cases h1
      rw [Addr.add_lit, ← Nat.add_assoc]
      exact h4 j' u e2) (fun u hu => by
      obtain ⟨r, _, hr⟩ := List.mem_flatMap.1 hu
      exact R.one r u hr) (by unfold maxLen; omega) hby
    refine ⟨v', w', hr, by rw [List.length_append, List.flatMap_append]; exact ho, hg, ?_⟩
    rcases hloc with ⟨g', e1, e2⟩ | h
    · exact .inl (e2.trans e1.symm)
    · exact .inr h
/-- One more, out of a block that was made for it. -/
theorem Has.append1 {t : TypeId} {bytes : Nat} (R : RowT Tryz.prog t T n bytes cells) {B : Nat} {w W : World} {Y : Res} [hY : Fr Y] {v : Value} {l : List α} (h : Has B w W (Star (Rws T n cells v l) Y)) (x : α) (cs : Array Value) (hcs : cs.toList = cells x) (hl : l.length ≤ 99999) (ty : TypeId) :
    ∃ v' w', (Builtin.append_ #[t, t] ty #[v, .slice (some ⟨W.heap.size, 0, none⟩) 1 1]).run Tryz.prog (W.alloc (.cells cs T)) = .ok v' w' ∧ Has B w w' (Star (Rws T n cells v' (l ++ [x])) Y) := by
  have h2 : Has B w (W.alloc (.cells cs T)) (Star (Rws T n cells v l) Y) := h.stay ((Below.refl _ _).alloc (Nat.le_refl _) _)
  obtain ⟨v', w', hr, ho, hg, hloc⟩ := run_append_rows R h2.rwsOwn (some ⟨W.heap.size, 0, none⟩) 1 [x] (fun i y hi => by
    match i, hi with
    | 0, hi =>
      obtain rfl : x = y := by simpa using hi
      refine ⟨_, _, rfl, fun j u hu => ?_⟩
      rw [World.cell?_alloc_at _ _ _ _ rfl]
      rw [← hcs] at hu
      simpa using hu
    | i + 1, hi => simp at hi) (by simp; omega) ty
  exact ⟨v', w', hr, h2.grew ho hg hloc⟩
/-- A cell of a row is turned. -/
theorem Has.rwsSet (hc : ∀ x, (cells x).length = n) {B : Nat} {w wr : World} {Y : Res} [hY : Fr Y] {g c : Nat} {l : List α} {off len : Nat} (h : Has B w wr (Star (Rws T n cells (.slice (some ⟨g, off, none⟩) len c) l) Y)) (i : Nat) (x x' : α) (hi : l[i]? = some x) (j : Nat) (hj : j < n) (u : Value) (e : cells x' = (cells x).set j u) :
    Has B w (wr.setCell ⟨g, i * n + j, none⟩ u) (Star (Rws T n cells (.slice (some ⟨g, off, none⟩) len c) (l.set i x')) Y) := by
  obtain ⟨F, ⟨F1, F2, h1, h2, hd, g1, g2⟩, h3⟩ := h.own
  have hgF : F1 g := by
    rcases h1.1.2 with ⟨hv, -⟩ | ⟨g', cap, cur, hv, -⟩
    · cases hv
    · cases hv
      exact h1.2 _ rfl
  have hs : (wr.setCell ⟨g, i * n + j, none⟩ u).heap.size = wr.heap.size := by simp [World.setCell]
  refine ⟨⟨F, ⟨F1, F2, ⟨?_, h1.2⟩, hY.keep h2 (fun k hk _ => heap_setCell_other _ _ _ _ (fun e => hd g hgF (by have e' : k = g := e; rw [← e']; exact hk))), hd, g1, g2⟩, h3⟩, h.bel.setCell (p := ⟨g, i * n + j, none⟩) (h3 g (g1 g hgF)) _, by rw [hs]; exact h.le⟩
  obtain ⟨hlen, h4⟩ := h1.1
  rcases h4 with ⟨hv, -⟩ | ⟨g', cap, cur, hv, hb, hg, hl, hm, hsz, ht⟩
  · cases hv
  · cases hv
    have hlt : i * n + j < l.length * n := by
      have h5 := (List.getElem?_eq_some_iff.1 hi).1
      have h6 : (i + 1) * n ≤ l.length * n := Nat.mul_le_mul_right n (by omega)
      rw [Nat.add_mul, Nat.one_mul] at h6
      omega
    refine ⟨by rw [List.length_set, flat_lenT hc]; simp, .inr ⟨g, c, cur.setIfInBounds (i * n + j) u, by rw [List.length_set], hb, ?_, by rw [List.length_set]; exact hl, hm, by simpa using hsz, ?_⟩⟩
    · have hB : Blk wr g T cur := hg
      exact hB.set _ _
    · rw [List.length_set, flat_setT hc l i x hi hj e, Array.toList_setIfInBounds, List.take_set, ht]
end
end Go.Proofs.YtpenejigebkkmaaGreat

namespace Go.Proofs.YtpenejigebkkmaaGreat
open Go.RowKit Spm
set_option linter.unusedVariables false
set_option linter.unusedSimpArgs false

/-- A module, a thread of the document's. -/
structure DM where
  n : Int
  gen : Int
  sz : Int
  bh : Int
  tm : List UInt8
  st : Bool
structure DT where
  id : Int
  tp : Int
  A : Option Addr
  c : Nat
  bl : List Bk
def dmA (x : DM) : Array Value := #[.int .i64 x.n, .int .i64 x.gen, .int .i64 x.sz, .int .i64 x.bh, .string (strB x.tm), .bool x.st]
def dmC (x : DM) : List Value := [.int .i64 x.n, .int .i64 x.gen, .int .i64 x.sz, .int .i64 x.bh, .string (strB x.tm), .bool x.st]
def dtV (x : DT) : Value := .slice x.A x.bl.length x.c
def dtC (x : DT) : List Value := [.int .i64 x.id, .int .i64 x.tp, dtV x]
def rbC (x : Bk) : List Value := [.int .i64 x.md, .int .i64 x.gn, .int .i64 x.at_, .int .i64 x.sz]
def igC (x : Int) : List Value := [.int .i64 x]
set_option maxRecDepth 100000 in
theorem dm_rowT : RowT Tryz.prog 29 107 6 56 dmC :=
  ⟨Tryz.underlying29, ⟨.agg #[.int .i64 0, .int .i64 0, .int .i64 0, .int .i64 0, .string ⟨#[]⟩, .bool false], by kernel_rfl, by kernel_rfl⟩, fun _ => rfl, fun x u hu => by
    simp only [dmC, List.mem_cons, List.not_mem_nil, or_false] at hu
    rcases hu with rfl | rfl | rfl | rfl | rfl | rfl <;> rfl, by decide, by decide⟩
set_option maxRecDepth 100000 in
theorem dt_rowT : RowT Tryz.prog 31 109 3 40 dtC :=
  ⟨Tryz.underlying31, ⟨.agg #[.int .i64 0, .int .i64 0, .slice none 0 0], by kernel_rfl, by kernel_rfl⟩, fun _ => rfl, fun x u hu => by
    simp only [dtC, List.mem_cons, List.not_mem_nil, or_false] at hu
    rcases hu with rfl | rfl | rfl <;> rfl, by decide, by decide⟩
set_option maxRecDepth 100000 in
theorem rb_rowT : RowT Tryz.prog 94 96 4 32 rbC :=
  ⟨Tryz.underlying94, ⟨.agg #[.int .i64 0, .int .i64 0, .int .i64 0, .int .i64 0], by kernel_rfl, by kernel_rfl⟩, fun _ => rfl, fun x u hu => by
    simp only [rbC, List.mem_cons, List.not_mem_nil, or_false] at hu
    rcases hu with rfl | rfl | rfl | rfl <;> rfl, by decide, by decide⟩
set_option maxRecDepth 100000 in
theorem ig_rowT : RowT Tryz.prog 30 3 1 8 igC :=
  ⟨Tryz.underlying30, ⟨.int .i64 0, by kernel_rfl, by kernel_rfl⟩, fun _ => rfl, fun x u hu => by
    simp only [igC, List.mem_cons, List.not_mem_nil, or_false] at hu
    rcases hu with rfl <;> rfl, by decide, by decide⟩
/-- The state, plain; with its slices. -/
structure Dt where
  ml : List DM
  gl : List Int
  tl : List DT
  sd : Bool
  ar : Int
  vm : Value
  vg : Value
  vt : Value
def Dt.arr (d : Dt) : Array Value := #[d.vm, d.vg, d.vt, .bool d.sd, .int .i64 d.ar]
abbrev Mods (v : Value) (l : List DM) : Res := Rws 107 6 dmC v l
abbrev Gens (v : Value) (l : List Int) : Res := Rws 3 1 igC v l
abbrev Thrs (v : Value) (l : List DT) : Res := Rws 109 3 dtC v l
abbrev Blks (v : Value) (l : List Bk) : Res := Rws 96 4 rbC v l
def dtR (x : DT) : Res := Blks (dtV x) x.bl
instance fr_dtR (x : DT) : Fr (dtR x) := inferInstanceAs (Fr (Blks (dtV x) x.bl))
abbrev Dl (r : Nat) (d : Dt) (Y : Res) : Res := Star (Cel r 33 d.arr) (Star (Mods d.vm d.ml) (Star (Gens d.vg d.gl) (Star (Thrs d.vt d.tl) (Star (All dtR d.tl) Y))))

/-! ### Places in lists -/
def idxI {α : Type} (p : α → Bool) (l : List α) : Int := if l.findIdx p < l.length then ((l.findIdx p : Nat) : Int) else -1
theorem idxI_here {α : Type} {p : α → Bool} {l : List α} {k : Nat} {x : α} (h : l[k]? = some x) (hp : p x = true) (hb : ∀ i y, i < k → l[i]? = some y → p y = false) : idxI p l = k := by
  obtain ⟨hk, he⟩ := List.getElem?_eq_some_iff.1 h
  have : l.findIdx p = k := by
    rw [List.findIdx_eq hk]
    refine ⟨by rw [he]; exact hp, fun j hj => ?_⟩
    exact hb j _ hj (List.getElem?_eq_getElem (by omega))
  unfold idxI
  rw [this, if_pos hk]
theorem idxI_none {α : Type} {p : α → Bool} {l : List α} (hb : ∀ y ∈ l, p y = false) : idxI p l = -1 := by
  unfold idxI
  rw [if_neg]
  have : l.findIdx p = l.length := List.findIdx_eq_length.2 (fun y hy => by rw [hb y hy])
  omega
theorem idxI_cases {α : Type} (p : α → Bool) (l : List α) : (idxI p l = -1 ∧ ∀ y ∈ l, p y = false) ∨ ∃ l1 x l2, l = l1 ++ x :: l2 ∧ idxI p l = (l1.length : Nat) ∧ p x = true ∧ ∀ y ∈ l1, p y = false := by
  induction l with
  | nil => exact .inl ⟨rfl, fun y hy => by simp at hy⟩
  | cons z l ih =>
    cases hz : p z with
    | true => exact .inr ⟨[], z, l, rfl, idxI_here (k := 0) (x := z) rfl hz (fun i y hi => by omega), hz, fun y hy => by simp at hy⟩
    | false =>
      rcases ih with ⟨h1, h2⟩ | ⟨l1, x, l2, h1, h2, h3, h4⟩
      · refine .inl ⟨idxI_none (fun y hy => ?_), fun y hy => ?_⟩ <;>
        · rcases List.mem_cons.1 hy with rfl | hy
          · exact hz
          · exact h2 y hy
      · refine .inr ⟨z :: l1, x, l2, by rw [h1]; rfl, ?_, h3, fun y hy => ?_⟩
        · refine idxI_here (x := x) ?_ h3 (fun i y hi hy => ?_)
          · rw [h1, List.length_cons, List.getElem?_cons_succ, List.getElem?_append_right (Nat.le_refl _), Nat.sub_self]; rfl
          · rw [h1] at hy
            match i, hi, hy with
            | 0, hi, hy => simp at hy; rw [← hy]; exact hz
            | i + 1, hi, hy =>
              rw [List.getElem?_cons_succ] at hy
              simp only [List.length_cons] at hi
              rw [List.getElem?_append_left (by omega)] at hy
              exact h4 y (List.mem_of_getElem? hy)
        · rcases List.mem_cons.1 hy with rfl | hy
          · exact hz
          · exact h4 y hy
def mIdx (l : List DM) (n : Int) : Int := idxI (fun x => decide (x.n = n)) l
def tIdx (l : List DT) (id : Int) : Int := idxI (fun x => decide (x.id = id)) l
def gAt (l : List Int) (n : Int) : Int := if n < 0 ∨ (l.length : Int) ≤ n then 0 else l.getD n.toNat 0

set_option maxRecDepth 100000 in
set_option maxHeartbeats 4000000 in
theorem rupT_any (n : Int) (h0 : 1 ≤ n) (h1 : n ≤ 4096) (w : World) : Calls Tryz.prog 51 #[.int .i64 n] w fun e w' => e = .returned (.int .i64 ((n + 7) / 8 * 8)) ∧ w = w' := by
  go_enter Tryz.func51, Tryz.ntmps51
  go_wp2
  go_loop [0] (fun i => ∃ k : Int, n ≤ k ∧ k ≤ (n + 7) / 8 * 8 ∧ i = .int .i64 k) (fun i => ((n + 7) / 8 * 8 - (intOf i)).toNat)
  case atStart => exact ⟨n, Int.le_refl _, by omega, rfl⟩
  case round =>
    obtain ⟨k, hk1, hk2, rfl⟩ := hrel
    have ht : k.tmod 8 = k % 8 := Int.tmod_eq_emod_of_nonneg (by omega)
    by_cases hz : k % 8 = 0
    · obtain rfl : k = (n + 7) / 8 * 8 := by omega
      go_wp2
      go_ret
      exact ⟨rfl, rfl⟩
    · go_wp2
      go_round
      case rel => exact ⟨k + 1, by omega, by omega, by go_num⟩
      case measure => simp [intOf]; omega
set_option maxRecDepth 100000 in
set_option maxHeartbeats 4000000 in
theorem rmodule_any {B : Nat} {w wr : World} {Y : Res} [hY : Fr Y] {r : Nat} {d : Dt} (h : Has B w wr (Dl r d Y)) (n : Int) : Calls Tryz.prog 52 #[.pointer (some ⟨r, 0, none⟩), .int .i64 n] wr fun e w' => e = .returned (.int .i64 (mIdx d.ml n)) ∧ wr = w' := by
  obtain ⟨ml, gl, tl, sd, ar, vm, vg, vt⟩ := d
  obtain ⟨A, c, hv, hlc, hc, hrow⟩ := Has.rwsv dm_rowT.len (h.pick (Mods vm ml))
  have s0 : wr.cell? ⟨r, 0, none⟩ = some vm := h.cellat r 0 rfl

  subst hv
  have HR := Lib.hid hrow
  unfold maxLen at hc
  clear h hrow
  show Calls _ _ _ _ fun e w' => e = .returned (.int .i64 (mIdx ml n)) ∧ _
  have HI := Lib.hid (fun (k : Nat) (x : DM) => idxI_here (p := fun x : DM => decide (x.n = n)) (l := ml) (k := k) (x := x))
  have HN := Lib.hid (idxI_none (p := fun x : DM => decide (x.n = n)) (l := ml))
  go_enter Tryz.func52, Tryz.ntmps52
  go_wp2
  go_loop [5] (fun i => ∃ k : Nat, k ≤ ml.length ∧ i = .int .i64 k ∧ Hid (∀ j y, j < k → ml[j]? = some y → decide (y.n = n) = false)) (fun i => ml.length - (intOf i).toNat)
  case atStart => exact ⟨0, Nat.zero_le _, rfl, Lib.hid (fun j y hj => by omega)⟩
  case round =>
    obtain ⟨k, hk, rfl, HB⟩ := hrel
    by_cases hlt : k < ml.length
    · obtain ⟨x, hx⟩ : ∃ x, ml[k]? = some x := ⟨_, List.getElem?_eq_getElem hlt⟩
      obtain ⟨g, rfl, -, hcell⟩ := HR.out k x hx
      have c0 : wr.cell? ⟨g, k * 6, none⟩ = some (.int .i64 x.n) := hcell 0 _ rfl
      have HX := Lib.hid hx
      clear hcell hx
      by_cases hn : x.n = n
      · have HE := Lib.hid (HI.out k x HX.out (decide_eq_true hn) HB.out)
        go_wp2
        go_ret
        exact ⟨by rw [show mIdx ml n = (k : Int) from HE.out]; rfl, rfl⟩
      · have HB2 : Hid (∀ j y, j < k + 1 → ml[j]? = some y → decide (y.n = n) = false) := Lib.hid (fun j y hj hy => by
          rcases Nat.lt_or_ge j k with h1 | h1
          · exact HB.out j y h1 hy
          · obtain rfl : j = k := by omega
            rw [HX.out] at hy
            cases hy
            exact decide_eq_false hn)
        go_wp2
        go_round
        case rel => exact ⟨k + 1, by omega, by go_num, HB2⟩
        case measure => simp [intOf]; omega
    · have HE : Hid (mIdx ml n = -1) := Lib.hid (HN.out (fun y hy => by
        obtain ⟨j, hj⟩ := List.mem_iff_getElem?.1 hy
        exact HB.out j y (by have := (List.getElem?_eq_some_iff.1 hj).1; omega) hj))
      go_wp2
      go_ret
      exact ⟨by rw [HE.out]; rfl, rfl⟩
end Go.Proofs.YtpenejigebkkmaaGreat

namespace Go.Proofs.YtpenejigebkkmaaGreat
open Go.RowKit Spm
set_option linter.unusedVariables false
set_option linter.unusedSimpArgs false

set_option maxRecDepth 100000 in
set_option maxHeartbeats 4000000 in
theorem rthread_any {B : Nat} {w wr : World} {Y : Res} [hY : Fr Y] {r : Nat} {d : Dt} (h : Has B w wr (Dl r d Y)) (id : Int) : Calls Tryz.prog 54 #[.pointer (some ⟨r, 0, none⟩), .int .i64 id] wr fun e w' => e = .returned (.int .i64 (tIdx d.tl id)) ∧ wr = w' := by
  obtain ⟨ml, gl, tl, sd, ar, vm, vg, vt⟩ := d
  obtain ⟨A, c, hv, hlc, hc, hrow⟩ := Has.rwsv dt_rowT.len (h.pick (Thrs vt tl))
  have s0 : wr.cell? ⟨r, 2, none⟩ = some vt := h.cellat r 2 rfl

  subst hv
  have HR := Lib.hid hrow
  unfold maxLen at hc
  clear h hrow
  show Calls _ _ _ _ fun e w' => e = .returned (.int .i64 (tIdx tl id)) ∧ _
  have HI := Lib.hid (fun (k : Nat) (x : DT) => idxI_here (p := fun x : DT => decide (x.id = id)) (l := tl) (k := k) (x := x))
  have HN := Lib.hid (idxI_none (p := fun x : DT => decide (x.id = id)) (l := tl))
  go_enter Tryz.func54, Tryz.ntmps54
  go_wp2
  go_loop [5] (fun i => ∃ k : Nat, k ≤ tl.length ∧ i = .int .i64 k ∧ Hid (∀ j y, j < k → tl[j]? = some y → decide (y.id = id) = false)) (fun i => tl.length - (intOf i).toNat)
  case atStart => exact ⟨0, Nat.zero_le _, rfl, Lib.hid (fun j y hj => by omega)⟩
  case round =>
    obtain ⟨k, hk, rfl, HB⟩ := hrel
    by_cases hlt : k < tl.length
    · obtain ⟨x, hx⟩ : ∃ x, tl[k]? = some x := ⟨_, List.getElem?_eq_getElem hlt⟩
      obtain ⟨g, rfl, -, hcell⟩ := HR.out k x hx
      have c0 : wr.cell? ⟨g, k * 3, none⟩ = some (.int .i64 x.id) := hcell 0 _ rfl
      have HX := Lib.hid hx
      clear hcell hx
      by_cases hn : x.id = id
      · have HE := Lib.hid (HI.out k x HX.out (decide_eq_true hn) HB.out)
        go_wp2
        go_ret
        exact ⟨by rw [show tIdx tl id = (k : Int) from HE.out]; rfl, rfl⟩
      · have HB2 : Hid (∀ j y, j < k + 1 → tl[j]? = some y → decide (y.id = id) = false) := Lib.hid (fun j y hj hy => by
          rcases Nat.lt_or_ge j k with h1 | h1
          · exact HB.out j y h1 hy
          · obtain rfl : j = k := by omega
            rw [HX.out] at hy
            cases hy
            exact decide_eq_false hn)
        go_wp2
        go_round
        case rel => exact ⟨k + 1, by omega, by go_num, HB2⟩
        case measure => simp [intOf]; omega
    · have HE : Hid (tIdx tl id = -1) := Lib.hid (HN.out (fun y hy => by
        obtain ⟨j, hj⟩ := List.mem_iff_getElem?.1 hy
        exact HB.out j y (by have := (List.getElem?_eq_some_iff.1 hj).1; omega) hj))
      go_wp2
      go_ret
      exact ⟨by rw [HE.out]; rfl, rfl⟩
set_option maxRecDepth 100000 in
set_option maxHeartbeats 4000000 in
theorem rgen_any {B : Nat} {w wr : World} {Y : Res} [hY : Fr Y] {r : Nat} {d : Dt} (h : Has B w wr (Dl r d Y)) (n : Int) : Calls Tryz.prog 35 #[.pointer (some ⟨r, 0, none⟩), .int .i64 n] wr fun e w' => e = .returned (.int .i64 (gAt d.gl n)) ∧ wr = w' := by
  obtain ⟨ml, gl, tl, sd, ar, vm, vg, vt⟩ := d
  obtain ⟨A, c, hv, hlc, hc, hrow⟩ := Has.rwsv ig_rowT.len (h.pick (Gens vg gl))
  have s1 : wr.cell? ⟨r, 1, none⟩ = some vg := h.cellat r 1 rfl

  subst hv
  have HR := Lib.hid hrow
  unfold maxLen at hc
  clear h hrow
  show Calls _ _ _ _ fun e w' => e = .returned (.int .i64 (gAt gl n)) ∧ _
  by_cases h0 : n < 0
  · have HE : Hid (gAt gl n = 0) := Lib.hid (by unfold gAt; rw [if_pos (.inl h0)])
    go_enter Tryz.func35, Tryz.ntmps35
    go_wp2
    go_ret
    exact ⟨by rw [HE.out]; rfl, rfl⟩
  by_cases h1 : (gl.length : Int) ≤ n
  · have HE : Hid (gAt gl n = 0) := Lib.hid (by unfold gAt; rw [if_pos (.inr h1)])
    go_enter Tryz.func35, Tryz.ntmps35
    go_wp2
    go_ret
    exact ⟨by rw [HE.out]; rfl, rfl⟩
  obtain ⟨k, rfl⟩ : ∃ k : Nat, n = k := ⟨n.toNat, by omega⟩
  have hk : k < gl.length := by omega
  obtain ⟨x, hx⟩ : ∃ x, gl[k]? = some x := ⟨_, List.getElem?_eq_getElem hk⟩
  obtain ⟨g, rfl, -, hcell⟩ := HR.out k x hx
  have c0 : wr.cell? ⟨g, k, none⟩ = some (.int .i64 x) := by
    have h9 := hcell 0 (.int .i64 x) rfl
    rwa [Nat.mul_one, Nat.add_zero] at h9
  have HE : Hid (gAt gl k = x) := Lib.hid (by
    unfold gAt
    rw [if_neg (by omega), Int.toNat_natCast, List.getD_eq_getElem?_getD, hx]
    rfl)
  clear hcell hx
  go_enter Tryz.func35, Tryz.ntmps35
  go_wp2
  go_ret
  exact ⟨by rw [HE.out]; rfl, rfl⟩
/-- What Static tells. -/
def dStat (l : List DM) (n : Int) : Int × Bool := match l.find? (fun x => decide (x.n = n)) with
  | none => (0, false)
  | some x => if x.st = true then (x.bh, true) else (0, false)
theorem find_none {l : List DM} {n : Int} (h : ∀ y ∈ l, decide (y.n = n) = false) : l.find? (fun x => decide (x.n = n)) = none := List.find?_eq_none.2 (fun y hy => by rw [h y hy]; simp)
theorem find_some {l1 l2 : List DM} {x : DM} {n : Int} (h : ∀ y ∈ l1, decide (y.n = n) = false) (hx : decide (x.n = n) = true) : (l1 ++ x :: l2).find? (fun x => decide (x.n = n)) = some x := by
  rw [List.find?_append, find_none h, List.find?_cons, hx]
  rfl
set_option maxRecDepth 100000 in
set_option maxHeartbeats 4000000 in
theorem rstatic_any {B : Nat} {w wr : World} {Y : Res} [hY : Fr Y] {r : Nat} {d : Dt} (h : Has B w wr (Dl r d Y)) (n : Int) : Calls Tryz.prog 34 #[.pointer (some ⟨r, 0, none⟩), .int .i64 n] wr fun e w' => e = .returned (.tuple #[.int .i64 (dStat d.ml n).1, .bool (dStat d.ml n).2]) ∧ wr = w' := by
  have C1 := Lib.hid (rmodule_any h n)
  obtain ⟨ml, gl, tl, sd, ar, vm, vg, vt⟩ := d
  obtain ⟨A, c, hv, hlc, hc, hrow⟩ := Has.rwsv dm_rowT.len (h.pick (Mods vm ml))
  have s0 : wr.cell? ⟨r, 0, none⟩ = some vm := h.cellat r 0 rfl

  subst hv
  have HR := Lib.hid hrow
  unfold maxLen at hc
  clear h hrow
  show Calls _ _ _ _ fun e w' => e = .returned (.tuple #[.int .i64 (dStat ml n).1, .bool (dStat ml n).2]) ∧ _
  rcases idxI_cases (fun x : DM => decide (x.n = n)) ml with ⟨h1, h2⟩ | ⟨l1, x, l2, h1, h2, h3, h4⟩
  · have HE : Hid (dStat ml n = (0, false)) := Lib.hid (by unfold dStat; rw [find_none h2])
    have hm : mIdx ml n = -1 := h1
    rw [hm] at C1
    clear h1 h2
    go_enter Tryz.func34, Tryz.ntmps34
    go_wp2_with fail
    refine (C1.out).mono ?_
    rintro e w1 ⟨rfl, rfl⟩
    go_wp2
    go_ret2
    exact ⟨by rw [HE.out]; rfl, rfl⟩
  · have hm : mIdx ml n = (l1.length : Nat) := h2
    rw [hm] at C1
    have HE : Hid (dStat ml n = if x.st = true then (x.bh, true) else (0, false)) := Lib.hid (by unfold dStat; rw [h1, find_some h4 h3])
    have hx : ml[l1.length]? = some x := by rw [h1, List.getElem?_append_right (Nat.le_refl _), Nat.sub_self]; rfl
    have hk : l1.length < ml.length := (List.getElem?_eq_some_iff.1 hx).1
    obtain ⟨g, rfl, -, hcell⟩ := HR.out _ x hx
    have c3 : wr.cell? ⟨g, l1.length * 6 + 3, none⟩ = some (.int .i64 x.bh) := hcell 3 _ rfl
    have c5 : wr.cell? ⟨g, l1.length * 6 + 5, none⟩ = some (.bool x.st) := hcell 5 _ rfl
    clear h1 h2 h3 h4 hm hcell hx
    generalize l1.length = k at *
    cases hst : x.st with
    | true =>
      rw [hst] at c5
      rw [if_pos hst] at HE
      clear hst
      go_enter Tryz.func34, Tryz.ntmps34
      go_wp2_with fail
      refine (C1.out).mono ?_
      rintro e w1 ⟨rfl, rfl⟩
      go_wp2
      go_ret2
      exact ⟨by rw [HE.out]; rfl, rfl⟩
    | false =>
      rw [hst] at c5
      rw [if_neg (by rw [hst]; decide)] at HE
      clear hst
      go_enter Tryz.func34, Tryz.ntmps34
      go_wp2_with fail
      refine (C1.out).mono ?_
      rintro e w1 ⟨rfl, rfl⟩
      go_wp2
      go_ret2
      exact ⟨by rw [HE.out]; rfl, rfl⟩
end Go.Proofs.YtpenejigebkkmaaGreat

namespace Go.Proofs.YtpenejigebkkmaaGreat
open Go.RowKit Spm
set_option linter.unusedVariables false
set_option linter.unusedSimpArgs false

theorem nodup_sub_len {α : Type} [DecidableEq α] : ∀ (a b : List α), a.Nodup → (∀ x ∈ a, x ∈ b) → a.length ≤ b.length
  | [], b, _, _ => Nat.zero_le _
  | x :: a, b, hn, h => by
    rw [List.nodup_cons] at hn
    have hx := h x (by simp)
    have ih := nodup_sub_len a (b.erase x) hn.2 (fun y hy => (List.mem_erase_of_ne (fun e => hn.1 (by rw [← e]; exact hy))).2 (h y (by simp [hy])))
    rw [List.length_erase_of_mem hx] at ih
    have : 0 < b.length := List.length_pos_of_mem hx
    simp only [List.length_cons]
    omega
def DFree (l : List DM) (n : Int) : Prop := 1 ≤ n ∧ (∀ k, 1 ≤ k → k < n → ∃ x ∈ l, x.n = k) ∧ ∀ x ∈ l, x.n ≠ n
def GNext (gl gl' : List Int) (n : Int) : Prop := gl'.length ≤ max gl.length (n.toNat + 1) ∧ ∀ k, gAt gl' k = if k = n then wrap64 (gAt gl n + 1) else gAt gl k
def DRegP (d : Dt) (tm : List UInt8) (size : Int) (st : Bool) (n r : Int) (d' : Dt) : Prop :=
  if size < 1 ∨ 4096 < size ∨ size < tm.length then n = 0 ∧ r = 1 ∧ d' = d
  else if st = true ∧ d.sd = true then n = 0 ∧ r = 172 ∧ d' = d
  else if 64 ≤ d.ml.length ∨ (st = true ∧ 4096 < d.ar + upT size) then n = 0 ∧ r = 3 ∧ d' = d
  else r = 0 ∧ DFree d.ml n ∧ ∃ gl vm vg, GNext d.gl gl n ∧ d' = { d with ml := d.ml ++ [⟨n, wrap64 (gAt d.gl n + 1), size, if st = true then d.ar else 0, tm, st⟩], gl := gl, ar := if st = true then d.ar + upT size else d.ar, vm := vm, vg := vg }
def fillS (L : List Rg) (q : Int) (x : DM) : List Rg := if x.tm = [] then L else (setS L q x.tm 0).1
def fillsS (q : Int) (L : List Rg) (l : List DM) : List Rg := l.foldl (fun L x => if x.st = true then fillS L (wrap64 (q + x.bh)) x else L) L
def tKey (y : DT) : Int × Int × List Bk := (y.id, y.tp, y.bl)
def DRelP (d : Dt) (L : List Rg) (n r : Int) (d' : Dt) (L' : List Rg) : Prop := match efind DM.n d.ml n with
  | none => r = 170 ∧ d' = d ∧ L' = L
  | some x => if x.st = true then r = 172 ∧ d' = d ∧ L' = L else r = 0 ∧ L' = unmapsS L (d.tl.flatMap fun y => (y.bl.filter fun b => decide (b.md = n)).map fun b => b.at_) ∧
      ∃ tl vm, tl.map tKey = d.tl.map (fun y => (y.id, y.tp, y.bl.filter fun b => !decide (b.md = n))) ∧ d' = { d with ml := edel DM.n d.ml n, tl := tl, vm := vm }
def DStartP (d : Dt) (L : List Rg) (id n r : Int) (d' : Dt) (L' : List Rg) : Prop :=
  if (efind DT.id d.tl id).isSome = true ∨ id < 0 ∨ 16 ≤ id then n = 0 ∧ r = 171 ∧ d' = d ∧ L' = L
  else if (mapS L (max 8 d.ar) 3).2.2 = 0 then n = (mapS L (max 8 d.ar) 3).2.1 ∧ r = 0 ∧ L' = fillsS (mapS L (max 8 d.ar) 3).2.1 (mapS L (max 8 d.ar) 3).1 d.ml ∧ ∃ vt, d' = { d with sd := true, tl := d.tl ++ [⟨id, (mapS L (max 8 d.ar) 3).2.1, none, 0, []⟩], vt := vt }
  else n = 0 ∧ r = (mapS L (max 8 d.ar) 3).2.2 ∧ d' = d ∧ L' = (mapS L (max 8 d.ar) 3).1
def DExitP (d : Dt) (L : List Rg) (id r : Int) (d' : Dt) (L' : List Rg) : Prop := match efind DT.id d.tl id with
  | none => r = 171 ∧ d' = d ∧ L' = L
  | some y => r = 0 ∧ L' = (unmapS (unmapsS L (y.bl.map fun b => b.at_)) y.tp).1 ∧ ∃ vt, d' = { d with tl := edel DT.id d.tl id, vt := vt }
def DAddrP (d : Dt) (L : List Rg) (id n off p r : Int) (d' : Dt) (L' : List Rg) : Prop := match efind DT.id d.tl id with
  | none => p = 0 ∧ r = 171 ∧ d' = d ∧ L' = L
  | some y => match efind DM.n d.ml n with
    | none => p = 0 ∧ r = 170 ∧ d' = d ∧ L' = L
    | some x => if off < 0 ∨ x.sz ≤ off then p = 0 ∧ r = 1 ∧ d' = d ∧ L' = L
      else if x.st = true then p = wrap64 (wrap64 (y.tp + x.bh) + off) ∧ r = 0 ∧ d' = d ∧ L' = L
      else match efind Bk.md y.bl n with
        | some b => p = wrap64 (b.at_ + off) ∧ r = 0 ∧ d' = d ∧ L' = L
        | none => if (mapS L x.sz 3).2.2 = 0 then p = wrap64 ((mapS L x.sz 3).2.1 + off) ∧ r = 0 ∧ L' = fillS (mapS L x.sz 3).1 (mapS L x.sz 3).2.1 x ∧
            ∃ l1 l2 A c, d.tl = l1 ++ y :: l2 ∧ (∀ z ∈ l1, z.id ≠ id) ∧ d' = { d with tl := l1 ++ ⟨y.id, y.tp, A, c, y.bl ++ [⟨n, x.gen, (mapS L x.sz 3).2.1, x.sz⟩]⟩ :: l2 }
          else p = 0 ∧ r = (mapS L x.sz 3).2.2 ∧ d' = d ∧ L' = (mapS L x.sz 3).1
def dBlk1 (ml : List DM) (y : DT) (n : Int) : List Bk := match efind DM.n ml n with
  | none => []
  | some x => (if x.st = true then [⟨n, x.gen, wrap64 (y.tp + x.bh), x.sz⟩] else []) ++ y.bl.filter fun b => decide (b.md = n)
def dBlks (d : Dt) (id : Int) : List Bk := match efind DT.id d.tl id with
  | none => []
  | some y => (List.range' 1 64).flatMap fun (n : Nat) => dBlk1 d.ml y (n : Int)

/-! ### How they go together -/
def cvM (e : MdE) : DM := ⟨e.k, e.x.gen, e.x.size, e.x.bh, e.x.tm, e.x.st⟩
def ThSim : Option ThE → Option DT → Prop
  | none, none => True
  | some x, some y => y.tp = x.tp ∧ y.bl = x.bl.map (·.x)
  | _, _ => False
structure Sim (t : Ts) (d : Dt) : Prop where
  mods : d.ml = t.ml.map cvM
  thr : ∀ id, ThSim (efind ThE.k t.tl id) (efind DT.id d.tl id)
  ids : (d.tl.map DT.id).Nodup
  gens : ∀ n, gAt d.gl n = gget t.gl n
  sd : d.sd = t.sd
  ar : d.ar = t.ar
  gll : d.gl.length ≤ 65
  bh0 : ∀ m ∈ t.ml, m.x.st = false → m.x.bh = 0
section
variable {α β : Type} {key : α → Int} {key2 : β → Int} {f : α → β}
theorem efind_map (hk : ∀ e, key2 (f e) = key e) (k : Int) : ∀ l : List α, efind key2 (l.map f) k = (efind key l k).map f
  | [] => rfl
  | x :: l => by
    rw [List.map_cons]
    unfold efind
    rw [hk]
    by_cases h : k = key x
    · rw [if_pos h, if_pos h]; rfl
    · rw [if_neg h, if_neg h, efind_map hk k l]
theorem edel_map (hk : ∀ e, key2 (f e) = key e) (k : Int) : ∀ l : List α, edel key2 (l.map f) k = (edel key l k).map f
  | [] => rfl
  | x :: l => by
    rw [List.map_cons]
    unfold edel
    rw [hk]
    by_cases h : k = key x
    · rw [if_pos h, if_pos h]
    · rw [if_neg h, if_neg h, List.map_cons, edel_map hk k l]
theorem efind_map_mem (k : Int) : ∀ l : List α, (∀ e ∈ l, key2 (f e) = key e) → efind key2 (l.map f) k = (efind key l k).map f
  | [], _ => rfl
  | x :: l, hk => by
    rw [List.map_cons]
    unfold efind
    rw [hk x (by simp)]
    by_cases h : k = key x
    · rw [if_pos h, if_pos h]; rfl
    · rw [if_neg h, if_neg h, efind_map_mem k l (fun e he => hk e (by simp [he]))]
theorem edel_filter {k : Int} : ∀ {l : List α}, (l.map key).Nodup → edel key l k = l.filter fun e => !decide (key e = k)
  | [], _ => rfl
  | x :: l, hn => by
    rw [List.map_cons, List.nodup_cons] at hn
    unfold edel
    rw [List.filter_cons]
    by_cases h : k = key x
    · rw [if_pos h, h]
      simp only [decide_true, Bool.not_true, Bool.false_eq_true, if_false]
      symm
      rw [List.filter_eq_self]
      intro y hy
      have : key y ≠ key x := fun e => hn.1 (by rw [← e]; exact List.mem_map_of_mem hy)
      simp [this]
    · rw [if_neg h, edel_filter hn.2]
      have : ¬ key x = k := fun e => h e.symm
      simp [this]
theorem find_filter {k : Int} : ∀ {l : List α}, (l.map key).Nodup → l.filter (fun e => decide (key e = k)) = (efind key l k).toList
  | [], _ => rfl
  | x :: l, hn => by
    rw [List.map_cons, List.nodup_cons] at hn
    unfold efind
    rw [List.filter_cons]
    by_cases h : k = key x
    · rw [if_pos h, h]
      simp only [decide_true, if_true, Option.toList_some]
      congr 1
      rw [List.filter_eq_nil_iff]
      intro y hy
      have : key y ≠ key x := fun e => hn.1 (by rw [← e]; exact List.mem_map_of_mem hy)
      simp [this]
    · rw [if_neg h, ← find_filter hn.2]
      have : ¬ key x = k := fun e => h e.symm
      simp [this]
end
theorem Sim.fm {t : Ts} {d : Dt} (h : Sim t d) (n : Int) : efind DM.n d.ml n = (efind MdE.k t.ml n).map cvM := by rw [h.mods]; exact efind_map (fun _ => rfl) n _
theorem Sim.th {t : Ts} {d : Dt} (h : Sim t d) {id : Int} : (efind ThE.k t.tl id = none ∧ efind DT.id d.tl id = none) ∨ ∃ x y, efind ThE.k t.tl id = some x ∧ efind DT.id d.tl id = some y ∧ y.tp = x.tp ∧ y.bl = x.bl.map (·.x) := by
  have h1 := h.thr id
  cases hx : efind ThE.k t.tl id with
  | none =>
    cases hy : efind DT.id d.tl id with
    | none => exact .inl ⟨rfl, rfl⟩
    | some y => rw [hx, hy] at h1; exact h1.elim
  | some x =>
    cases hy : efind DT.id d.tl id with
    | none => rw [hx, hy] at h1; exact h1.elim
    | some y => rw [hx, hy] at h1; exact .inr ⟨x, y, rfl, rfl, h1.1, h1.2⟩
theorem Sim.new (gm gg gt : Nat) (vm vg vt : Value) : Sim (ts0 gm gg gt) ⟨[], [], [], false, 0, vm, vg, vt⟩ :=
  ⟨rfl, fun id => trivial, List.nodup_nil, fun n => by
    show gAt [] n = 0
    unfold gAt
    split
    · rfl
    · rfl, rfl, rfl, Nat.zero_le _, fun m hm => by simp [ts0] at hm⟩
theorem SInv.bk_md {t : Ts} {L : List Rg} (h : SInv t L) {x : ThE} (hx : x ∈ t.tl) : ∀ e ∈ x.bl, e.x.md = e.k := fun e he => by
  obtain ⟨m, -, -, h3, -⟩ := h.bk x hx e he
  exact h3
theorem SInv.bl_find {t : Ts} {L : List Rg} (h : SInv t L) {x : ThE} (hx : x ∈ t.tl) (n : Int) : efind Bk.md (x.bl.map (·.x)) n = (efind BkE.k x.bl n).map (·.x) := efind_map_mem n _ (h.bk_md hx)
theorem SInv.bl_nodup {t : Ts} {L : List Rg} (h : SInv t L) {x : ThE} (hx : x ∈ t.tl) : ((x.bl.map (·.x)).map Bk.md).Nodup := by
  rw [List.map_map]
  have e : x.bl.map (Bk.md ∘ fun e : BkE => e.x) = x.bl.map BkE.k := List.map_congr_left (h.bk_md hx)
  rw [e]
  exact h.inv.good.kb hx
theorem SInv.bl_drop {t : Ts} {L : List Rg} (h : SInv t L) {x : ThE} (hx : x ∈ t.tl) (n : Int) : (x.bl.map (·.x)).filter (fun b => !decide (b.md = n)) = (edel BkE.k x.bl n).map (·.x) := by
  rw [edel_filter (h.inv.good.kb hx), List.filter_map]
  congr 1
  refine List.filter_congr fun e he => ?_
  show (!decide (e.x.md = n)) = !decide (e.k = n)
  rw [h.bk_md hx e he]

/-- THE PLAIN LAW of Exit. -/
theorem Sim.exit {t : Ts} {L : List Rg} {d d' : Dt} {id r r2 : Int} {t' : Ts} {L' L2 : List Rg} (h : Sim t d) (hs : SInv t L) (hp : ExitP t L id r t' L') (hq : DExitP d L id r2 d' L2) : r2 = r ∧ L2 = L' ∧ Sim t' d' := by
  unfold ExitP at hp
  unfold DExitP at hq
  rcases h.th (id := id) with ⟨e1, e2⟩ | ⟨x, y, e1, e2, h1, h2⟩
  · rw [e1] at hp; rw [e2] at hq
    obtain ⟨rfl, rfl, rfl⟩ := hp
    obtain ⟨rfl, rfl, rfl⟩ := hq
    exact ⟨rfl, rfl, h⟩
  · rw [e1] at hp; rw [e2] at hq
    obtain ⟨rfl, rfl, az, hz, rfl⟩ := hp
    obtain ⟨rfl, rfl, vt, rfl⟩ := hq
    refine ⟨rfl, ?_, h.mods, fun j => ?_, h.ids.sublist ((edel_sub id d.tl).map _), h.gens, h.sd, h.ar, h.gll, h.bh0⟩
    · rw [← unmapsS_snoc, ← unmapsS_snoc, unmapsS_filter _ _ hs.ok, unmapsS_filter _ _ hs.ok]
      refine List.filter_congr fun g _ => ?_
      have hm : g.at_ ∈ az ↔ g.at_ ∈ y.bl.map fun b => b.at_ := by
        rw [hz.mem_iff, h2, List.map_map]
        exact Iff.rfl
      rw [h1]
      simp only [List.mem_append, hm]
    · show ThSim (efind ThE.k (edel ThE.k t.tl id) j) (efind DT.id (edel DT.id d.tl id) j)
      by_cases hj : j = id
      · subst hj
        rw [efind_none_of (edel_ne hs.inv.good.kt), efind_none_of (edel_ne h.ids)]
        trivial
      · rw [efind_edel hj, efind_edel hj]
        exact h.thr j
/-- .. of Release. -/
theorem Sim.rel {t : Ts} {L : List Rg} {d d' : Dt} {n r r2 : Int} {t' : Ts} {L' L2 : List Rg} (h : Sim t d) (hs : SInv t L) (hp : RelP t L n r t' L') (hq : DRelP d L n r2 d' L2) : r2 = r ∧ L2 = L' ∧ Sim t' d' := by
  unfold RelP at hp
  unfold DRelP at hq
  rw [h.fm] at hq
  cases hf : efind MdE.k t.ml n with
  | none =>
    rw [hf] at hp hq
    obtain ⟨rfl, rfl, rfl⟩ := hp
    obtain ⟨rfl, rfl, rfl⟩ := hq
    exact ⟨rfl, rfl, h⟩
  | some m =>
    rw [hf] at hp hq
    have hq' : if m.x.st = true then r2 = 172 ∧ d' = d ∧ L2 = L else r2 = 0 ∧ L2 = unmapsS L (d.tl.flatMap fun y => (y.bl.filter fun b => decide (b.md = n)).map fun b => b.at_) ∧
      ∃ tl vm, tl.map tKey = d.tl.map (fun y => (y.id, y.tp, y.bl.filter fun b => !decide (b.md = n))) ∧ d' = { d with ml := edel DM.n d.ml n, tl := tl, vm := vm } := hq
    dsimp only at hp
    by_cases hst : m.x.st = true
    · rw [if_pos hst] at hp hq'
      obtain ⟨rfl, rfl, rfl⟩ := hp
      obtain ⟨rfl, rfl, rfl⟩ := hq'
      exact ⟨rfl, rfl, h⟩
    · rw [if_neg hst] at hp hq'
      obtain ⟨rfl, rfl, az, hz, rfl⟩ := hp
      obtain ⟨rfl, rfl, tl, vm, htl, rfl⟩ := hq'
      have hef : ∀ j, (efind DT.id tl j).map tKey = (efind DT.id d.tl j).map fun y => (y.id, y.tp, y.bl.filter fun b => !decide (b.md = n)) := fun j => by
        have e1 := efind_map (key := DT.id) (key2 := fun z : Int × Int × List Bk => z.1) (f := tKey) (fun _ => rfl) j tl
        have e2 := efind_map (key := DT.id) (key2 := fun z : Int × Int × List Bk => z.1) (f := fun y : DT => (y.id, y.tp, y.bl.filter fun b => !decide (b.md = n))) (fun _ => rfl) j d.tl
        rw [htl] at e1
        exact e1.symm.trans e2
      refine ⟨rfl, ?_, ?_, fun j => ?_, ?_, h.gens, h.sd, h.ar, h.gll, fun m hm => h.bh0 m (edel_mem hm)⟩
      · rw [unmapsS_filter _ _ hs.ok, unmapsS_filter _ _ hs.ok]
        refine List.filter_congr fun g _ => ?_
        congr 1
        refine propext (not_congr ?_)
        rw [hz.mem_iff]
        unfold gath
        rw [List.mem_flatMap, List.mem_filterMap]
        constructor
        · rintro ⟨y, hy, hg⟩
          obtain ⟨b, hb, hga⟩ := List.mem_map.1 hg
          have hfy := efind_of_mem h.ids hy
          rcases h.th (id := y.id) with ⟨-, e2⟩ | ⟨x, y', e1, e2, h1, h2⟩
          · rw [e2] at hfy; cases hfy
          · rw [e2] at hfy
            obtain rfl := Option.some.inj hfy
            have hx := (efind_mem e1).1
            refine ⟨x, hx, ?_⟩
            rw [h2, find_filter (hs.bl_nodup hx), hs.bl_find hx] at hb
            cases hfb : efind BkE.k x.bl n with
            | none => rw [hfb] at hb; simp at hb
            | some e =>
              rw [hfb] at hb
              have : b = e.x := by simpa using hb
              subst this
              show some e.x.at_ = _
              rw [hga]
        · rintro ⟨x, hx, hg⟩
          cases hfb : efind BkE.k x.bl n with
          | none => rw [hfb] at hg; cases hg
          | some e =>
            rw [hfb] at hg
            have hga : e.x.at_ = g.at_ := by simpa using hg
            have hfx := efind_of_mem hs.inv.good.kt hx
            rcases h.th (id := x.k) with ⟨e1, -⟩ | ⟨x', y, e1, e2, h1, h2⟩
            · rw [e1] at hfx; cases hfx
            · rw [e1] at hfx
              obtain rfl := Option.some.inj hfx
              refine ⟨y, (efind_mem e2).1, ?_⟩
              rw [h2, find_filter (hs.bl_nodup hx), hs.bl_find hx, hfb]
              simp [hga]
      · show edel DM.n d.ml n = (edel MdE.k t.ml n).map cvM
        rw [h.mods]
        exact edel_map (fun _ => rfl) n _
      · show ThSim (efind ThE.k (t.tl.map (dropB n)) j) (efind DT.id tl j)
        rw [efind_map (key := ThE.k) (f := dropB n) (fun _ => rfl)]
        have hj := hef j
        rcases h.th (id := j) with ⟨e1, e2⟩ | ⟨x, y, e1, e2, h1, h2⟩
        · rw [e1]
          rw [e2] at hj
          have : efind DT.id tl j = none := by
            cases hh : efind DT.id tl j with
            | none => rfl
            | some z => rw [hh] at hj; cases hj
          rw [this]
          trivial
        · rw [e1]
          rw [e2] at hj
          cases hh : efind DT.id tl j with
          | none => rw [hh] at hj; cases hj
          | some z =>
            rw [hh] at hj
            have hz2 : tKey z = (y.id, y.tp, y.bl.filter fun b => !decide (b.md = n)) := by simpa using hj
            refine ⟨(congrArg (fun q : Int × Int × List Bk => q.2.1) hz2).trans h1, (congrArg (fun q : Int × Int × List Bk => q.2.2) hz2).trans ?_⟩
            show y.bl.filter _ = (edel BkE.k x.bl n).map (·.x)
            rw [h2]
            exact hs.bl_drop (efind_mem e1).1 n
      · show (tl.map DT.id).Nodup
        have e1 : tl.map DT.id = d.tl.map DT.id := by
          have := congrArg (List.map fun q : Int × Int × List Bk => q.1) htl
          rw [List.map_map, List.map_map] at this
          exact this
        rw [e1]
        exact h.ids
/-! ### Register -/
theorem DFree.mods {t : Ts} {d : Dt} (h : Sim t d) {n m : Int} {L : List Rg} (hs : SInv t L) (hd : DFree d.ml n) (hm : FreeN t.ml m) : n = m := by
  have hfd : efind MdE.k t.ml n = none := by
    cases hf : efind MdE.k t.ml n with
    | none => rfl
    | some e =>
      obtain ⟨he, hk⟩ := efind_mem hf
      exact absurd hk (hd.2.2 (cvM e) (by rw [h.mods]; exact List.mem_map_of_mem he))
  have h1 := free_le hm hfd hd.1
  by_cases hlt : m < n
  · obtain ⟨x, hx, hxn⟩ := hd.2.1 m hm.1 hlt
    rw [h.mods] at hx
    obtain ⟨e, he, rfl⟩ := List.mem_map.1 hx
    have hf := efind_of_mem hs.inv.good.km he
    have hz : 0 < mszS t.ml m := by
      unfold mszS
      rw [← show e.k = m from hxn, hf]
      exact Int.lt_of_lt_of_le (by decide) (hs.inv.key e he).2
    exact absurd hz hm.2.2.2
  · omega
theorem freeN_full {t : Ts} {L : List Rg} (hs : SInv t L) {m : Int} (hm : FreeN t.ml m) : 64 < m ↔ 64 ≤ t.ml.length := by
  constructor
  · intro h
    have h2 : m = 65 := by have := hm.2.1; omega
    subst h2
    have hsub : ∀ k : Int, 1 ≤ k → k < 65 → k ∈ t.ml.map MdE.k := fun k h1 h2 => by
      have h3 := hm.2.2.1 k h1 h2
      unfold mszS at h3
      cases hf : efind MdE.k t.ml k with
      | none => rw [hf] at h3; exact absurd h3 (by decide)
      | some e =>
        obtain ⟨he, hk⟩ := efind_mem hf
        rw [← hk]
        exact List.mem_map_of_mem he
    have hlen := nodup_sub_len ((List.range 64).map fun i : Nat => (i : Int) + 1) (t.ml.map MdE.k) (by
      unfold List.Nodup
      rw [List.pairwise_map]
      refine List.Pairwise.imp ?_ (List.pairwise_lt_range (n := 64))
      intro a b hab
      omega) (fun x hx => by
      obtain ⟨i, hi, rfl⟩ := List.mem_map.1 hx
      have := List.mem_range.1 hi
      exact hsub _ (by omega) (by omega))
    rw [List.length_map, List.length_map, List.length_range] at hlen
    exact hlen
  · intro h
    by_cases h64 : 64 < m
    · exact h64
    · have hlen := nodup_sub_len (m :: t.ml.map MdE.k) ((List.range 64).map fun i : Nat => (i : Int) + 1) (by
        rw [List.nodup_cons]
        refine ⟨fun hmem => ?_, hs.inv.good.km⟩
        obtain ⟨e, he, hk⟩ := List.mem_map.1 hmem
        have hf := efind_of_mem hs.inv.good.km he
        have hz : 0 < mszS t.ml m := by
          unfold mszS
          rw [← hk, hf]
          exact Int.lt_of_lt_of_le (by decide) (hs.inv.key e he).2
        exact hm.2.2.2 hz) (fun x hx => by
        have hb : 1 ≤ x ∧ x ≤ 64 := by
          rcases List.mem_cons.1 hx with rfl | hx
          · exact ⟨hm.1, by omega⟩
          · obtain ⟨e, he, rfl⟩ := List.mem_map.1 hx
            exact ⟨hs.k1 e he, (hs.inv.key e he).1⟩
        exact List.mem_map.2 ⟨(x - 1).toNat, List.mem_range.2 (by omega), by omega⟩)
      rw [List.length_cons, List.length_map, List.length_map, List.length_range] at hlen
      omega
theorem Sim.reg {t : Ts} {L : List Rg} {d d' : Dt} {tm : List UInt8} {size : Int} {st : Bool} {n r n2 r2 : Int} {t' : Ts} (h : Sim t d) (hs : SInv t L) (hgi : ∀ k, I64 (gget t.gl k)) (hp : RegP t tm size st n r t') (hq : DRegP d tm size st n2 r2 d') : n2 = n ∧ r2 = r ∧ Sim t' d' := by
  have a0 := hs.a0
  have a1 := hs.a1
  unfold RegP at hp
  unfold DRegP at hq
  by_cases h1 : size < 1 ∨ 4096 < size ∨ size < tm.length
  · rw [if_pos h1] at hp hq
    obtain ⟨rfl, rfl, rfl⟩ := hp
    obtain ⟨rfl, rfl, rfl⟩ := hq
    exact ⟨rfl, rfl, h⟩
  rw [if_neg h1] at hp hq
  rw [h.sd] at hq
  by_cases h2 : st = true ∧ t.sd = true
  · rw [if_pos h2] at hp hq
    obtain ⟨rfl, rfl, rfl⟩ := hp
    obtain ⟨rfl, rfl, rfl⟩ := hq
    exact ⟨rfl, rfl, h⟩
  rw [if_neg h2] at hp hq
  obtain ⟨m, hm, hp⟩ := hp
  have hlen : d.ml.length = t.ml.length := by rw [h.mods, List.length_map]
  rw [hlen, h.ar] at hq
  obtain ⟨u1, u2⟩ := upT_nn (n := size) (by omega)
  have hw : wrap64 (4096 - t.ar) = 4096 - t.ar := by simp only [wrap64]; omega
  by_cases h3 : 64 < m
  · rw [if_pos h3] at hp
    rw [if_pos (.inl ((freeN_full hs hm).1 h3))] at hq
    obtain ⟨rfl, rfl, rfl⟩ := hp
    obtain ⟨rfl, rfl, rfl⟩ := hq
    exact ⟨rfl, rfl, h⟩
  rw [if_neg h3] at hp
  have h3' : ¬ 64 ≤ t.ml.length := fun hh => h3 ((freeN_full hs hm).2 hh)
  by_cases h4 : st = true ∧ wrap64 (4096 - t.ar) < upT size
  · rw [if_pos h4] at hp
    rw [if_pos (.inr ⟨h4.1, by have := h4.2; omega⟩)] at hq
    obtain ⟨rfl, rfl, rfl⟩ := hp
    obtain ⟨rfl, rfl, rfl⟩ := hq
    refine ⟨rfl, rfl, h.mods, h.thr, h.ids, fun k => ?_, h.sd, h.ar, h.gll, h.bh0⟩
    show gAt d'.gl k = gget (gsetL (gsetT t m (wrap64 (gget t.gl m + 1))) m (wrap64 (wrap64 (gget t.gl m + 1) - 1))) k
    rw [gget_gset, h.gens]
    show gget t.gl k = if k = m then _ else gget (gsetL t m _) k
    rw [gget_gset]
    split
    · rename_i hk
      rw [hk]
      have := hgi m
      unfold I64 at this
      simp only [wrap64]
      omega
    · rfl
  rw [if_neg h4] at hp
  rw [if_neg (by rintro (hh | ⟨hh1, hh2⟩); exact h3' hh; exact h4 ⟨hh1, by rw [hw]; omega⟩)] at hq
  obtain ⟨rfl, rfl, v, rfl⟩ := hp
  obtain ⟨rfl, hfr, gl, vm, vg, ⟨hg1, hg2⟩, rfl⟩ := hq
  have hnm := DFree.mods h hs hfr hm
  subst hnm
  have hle : n2 ≤ 64 := by omega
  refine ⟨rfl, rfl, ?_, h.thr, h.ids, fun k => ?_, rfl, ?_, ?_, fun e he hst => ?_⟩
  · show d.ml ++ [_] = (t.ml ++ [newM t n2 tm size st v]).map cvM
    rw [List.map_append, h.mods, h.gens]
    rfl
  · show gAt gl k = gget (gsetL t n2 (wrap64 (gget t.gl n2 + 1))) k
    rw [hg2, gget_gset, h.gens, h.gens]
  · show (if st = true then t.ar + upT size else t.ar) = if st = true then wrap64 (t.ar + upT size) else t.ar
    by_cases hst : st = true
    · rw [if_pos hst, if_pos hst]
      have : ¬ (4096 - t.ar < upT size) := fun hh => h4 ⟨hst, by rw [hw]; exact hh⟩
      simp only [wrap64]
      omega
    · rw [if_neg hst, if_neg hst]
  · have := h.gll
    show gl.length ≤ 65
    have h9 := hm.1
    omega
  · rcases List.mem_append.1 he with he | he
    · exact h.bh0 e he hst
    · obtain rfl := List.mem_singleton.1 he
      show (if st = true then t.ar else 0) = 0
      have hst' : st = false := hst
      rw [if_neg (by rw [hst']; decide)]
end Go.Proofs.YtpenejigebkkmaaGreat

namespace Go.Proofs.YtpenejigebkkmaaGreat
open Go.RowKit Spm
set_option linter.unusedVariables false
set_option linter.unusedSimpArgs false

/-! ### Writing over a list, many times -/
abbrev Wr := Nat × List UInt8
def wrL (l : List UInt8) (ws : List Wr) : List UInt8 := ws.foldl (fun l w => over l w.1 w.2) l
def Covers (w : Wr) (p : Nat) : Prop := w.1 ≤ p ∧ p < w.1 + w.2.length
theorem over_atT {l b : List UInt8} {k p : Nat} (h : k + b.length ≤ l.length) (hp : k ≤ p ∧ p < k + b.length) : (over l k b)[p]? = b[p - k]? := by
  unfold over
  rw [List.append_assoc, List.getElem?_append_right (by simp; omega), List.getElem?_append_left (by simp; omega)]
  congr 1
  simp
  omega
theorem over_not {l b : List UInt8} {k p : Nat} (h : k + b.length ≤ l.length) (hp : ¬ (k ≤ p ∧ p < k + b.length)) : (over l k b)[p]? = l[p]? := over_get_other l b k p h (by omega)
theorem wrL_len : ∀ (ws : List Wr) (l : List UInt8), (∀ w ∈ ws, w.1 + w.2.length ≤ l.length) → (wrL l ws).length = l.length
  | [], l, _ => rfl
  | w :: ws, l, h => by
    have h1 := over_len' l w.2 w.1 (h w (by simp))
    show (wrL (over l w.1 w.2) ws).length = _
    rw [wrL_len ws _ (fun x hx => by rw [h1]; exact h x (by simp [hx])), h1]
theorem wrL_none : ∀ (ws : List Wr) (l : List UInt8) (p : Nat), (∀ w ∈ ws, w.1 + w.2.length ≤ l.length) → (∀ w ∈ ws, ¬ Covers w p) → (wrL l ws)[p]? = l[p]?
  | [], l, p, _, _ => rfl
  | w :: ws, l, p, h, hn => by
    have h1 := over_len' l w.2 w.1 (h w (by simp))
    show (wrL (over l w.1 w.2) ws)[p]? = _
    rw [wrL_none ws _ p (fun x hx => by rw [h1]; exact h x (by simp [hx])) (fun x hx => hn x (by simp [hx]))]
    exact over_not (h w (by simp)) (hn w (by simp))
def DisjW (a b : Wr) : Prop := a.1 + a.2.length ≤ b.1 ∨ b.1 + b.2.length ≤ a.1
theorem wrL_some : ∀ (ws : List Wr) (l : List UInt8) (p : Nat) (w : Wr), (∀ w ∈ ws, w.1 + w.2.length ≤ l.length) → ws.Pairwise DisjW → w ∈ ws → Covers w p → (wrL l ws)[p]? = w.2[p - w.1]?
  | [], l, p, w, _, _, hw, _ => by simp at hw
  | x :: ws, l, p, w, h, hd, hw, hc => by
    obtain ⟨d1, d2⟩ := List.pairwise_cons.1 hd
    have h1 := over_len' l x.2 x.1 (h x (by simp))
    show (wrL (over l x.1 x.2) ws)[p]? = _
    have h2 : ∀ z ∈ ws, z.1 + z.2.length ≤ (over l x.1 x.2).length := fun z hz => by rw [h1]; exact h z (by simp [hz])
    rcases List.mem_cons.1 hw with hw1 | hw1
    · subst hw1
      rw [wrL_none ws _ p h2 (fun z hz hz2 => by
        have := d1 z hz
        unfold DisjW at this
        unfold Covers at hc hz2
        omega)]
      exact over_atT (h w (by simp)) hc
    · exact wrL_some ws _ p w h2 d2 hw1 hc
theorem set_modify {L : List Rg} (h : Ok L) {i : Nat} {r : Rg} (hi : L[i]? = some r) {off : Int} {b : List UInt8} (h0 : 0 ≤ off) (h1 : off + b.length ≤ r.sz) (hb : b ≠ []) : setS L (r.at_ + off) b 0 = (L.modify i (fun r => { r with bs := over r.bs off.toNat b }), 0) := by
  have hro := h.each r (List.mem_of_getElem? hi)
  have hs := hro.shi
  have hb1 : 0 < b.length := by cases b; exact absurd rfl hb; simp
  have hk := partK_eq h hi (inside_of (x := r.at_ + off) (by omega) (by omega))
  have hp : partS L (r.at_ + off) b.length 0 = 0 := by
    rw [partS_some (hk ▸ hi), if_neg (by omega), if_neg (by simp [has])]
  unfold setS
  rw [if_neg (by omega), if_neg (by simp [hp]), hk]
  refine Prod.ext ?_ rfl
  show L.modify i _ = L.modify i _
  have e : (r.at_ + off - r.at_).toNat = off.toNat := by omega
  refine List.ext_getElem? fun j => ?_
  rw [List.getElem?_modify, List.getElem?_modify]
  by_cases hij : i = j
  · subst hij
    rw [hi]
    simp [e]
  · simp [hij]
def wM (y : MdE) : Wr := (y.x.bh.toNat, fullB y.x)
def wD (x : DM) : Option Wr := if x.st = true ∧ x.tm ≠ [] then some (x.bh.toNat, x.tm) else none
theorem modify_bs (L : List Rg) (i : Nat) (b1 b2 : List UInt8 → List UInt8) : (L.modify i fun r => { r with bs := b1 r.bs }).modify i (fun r => { r with bs := b2 r.bs }) = L.modify i fun r => { r with bs := b2 (b1 r.bs) } := by
  rw [List.modify_modify_eq]
  rfl
theorem modify_id (L : List Rg) (i : Nat) : (L.modify i fun r => { r with bs := r.bs }) = L := by
  have : (fun r : Rg => ({ r with bs := r.bs } : Rg)) = id := rfl
  rw [this]
  exact List.modify_id i L
theorem modify_get {L : List Rg} {i : Nat} {r : Rg} (hi : L[i]? = some r) (f : List UInt8 → List UInt8) : (L.modify i fun r => { r with bs := f r.bs })[i]? = some { r with bs := f r.bs } := by
  rw [List.getElem?_modify, hi]
  simp
theorem pokes_bs {i : Nat} : ∀ (mz : List MdE) (L : List Rg) (r : Rg), Ok L → L[i]? = some r → (∀ y ∈ mz, 0 ≤ y.x.bh ∧ y.x.bh + y.x.size ≤ r.sz ∧ 1 ≤ y.x.size ∧ (y.x.tm.length : Int) ≤ y.x.size) → pokes r.at_ L mz = L.modify i (fun r => { r with bs := wrL r.bs (mz.map wM) })
  | [], L, r, h, hi, hy => (modify_id L i).symm
  | y :: mz, L, r, h, hi, hy => by
    obtain ⟨y0, y1, y2, y3⟩ := hy y (by simp)
    have hro := h.each r (List.mem_of_getElem? hi)
    have hlen := fullB_len y3
    have hne : fullB y.x ≠ [] := by intro hh; rw [hh] at hlen; simp at hlen; omega
    have hlo := hro.lo
    have hhi := hro.hi
    have hw : wrap64 (r.at_ + y.x.bh) = r.at_ + y.x.bh := by simp only [wrap64]; omega
    have hset := set_modify h hi (off := y.x.bh) (b := fullB y.x) y0 (by omega) hne
    show pokes r.at_ (setS L (wrap64 (r.at_ + y.x.bh)) (fullB y.x) 0).1 mz = _
    have hok := h.set (r.at_ + y.x.bh) (fullB y.x) 0
    rw [hw, hset]
    rw [hset] at hok
    have ih := pokes_bs mz _ { r with bs := over r.bs y.x.bh.toNat (fullB y.x) } hok (modify_get hi (fun bs => over bs y.x.bh.toNat (fullB y.x))) (fun z hz => hy z (by simp [hz]))
    refine ih.trans ?_
    exact modify_bs L i (fun bs => over bs y.x.bh.toNat (fullB y.x)) (fun bs => wrL bs (mz.map wM))
theorem fills_bs {i : Nat} : ∀ (l : List DM) (L : List Rg) (r : Rg), Ok L → L[i]? = some r → (∀ x ∈ l, x.st = true → 0 ≤ x.bh ∧ x.bh + x.tm.length ≤ r.sz) → fillsS r.at_ L l = L.modify i (fun r => { r with bs := wrL r.bs (l.filterMap wD) })
  | [], L, r, h, hi, hy => (modify_id L i).symm
  | x :: l, L, r, h, hi, hy => by
    show fillsS r.at_ (if x.st = true then fillS L (wrap64 (r.at_ + x.bh)) x else L) l = _
    rw [List.filterMap_cons]
    by_cases hst : x.st = true
    · obtain ⟨y0, y1⟩ := hy x (by simp) hst
      have hro := h.each r (List.mem_of_getElem? hi)
      have hlo := hro.lo
      have hhi := hro.hi
      have hw : wrap64 (r.at_ + x.bh) = r.at_ + x.bh := by simp only [wrap64]; omega
      rw [if_pos hst, hw]
      unfold fillS
      by_cases htm : x.tm = []
      · rw [if_pos htm]
        have : wD x = none := by unfold wD; rw [if_neg (fun hh => hh.2 htm)]
        rw [this]
        exact fills_bs l L r h hi (fun z hz => hy z (by simp [hz]))
      · rw [if_neg htm]
        have : wD x = some (x.bh.toNat, x.tm) := by unfold wD; rw [if_pos ⟨hst, htm⟩]
        rw [this]
        have hset := set_modify h hi (off := x.bh) (b := x.tm) y0 y1 htm
        have hok := h.set (r.at_ + x.bh) x.tm 0
        rw [hset] at hok ⊢
        have ih := fills_bs l _ { r with bs := over r.bs x.bh.toNat x.tm } hok (modify_get hi (fun bs => over bs x.bh.toNat x.tm)) (fun z hz => hy z (by simp [hz]))
        refine ih.trans ?_
        exact modify_bs L i (fun bs => over bs x.bh.toNat x.tm) (fun bs => wrL bs (l.filterMap wD))
    · rw [if_neg hst]
      have : wD x = none := by unfold wD; rw [if_neg (fun hh => hst hh.1)]
      rw [this]
      exact fills_bs l L r h hi (fun z hz => hy z (by simp [hz]))
theorem zeros_get {N : Int} {p : Nat} (h : p < (zeros N).length) : (zeros N)[p]? = some 0 := by
  unfold zeros at h ⊢
  rw [List.length_replicate] at h
  rw [List.getElem?_replicate, if_pos h]
theorem full_get {x : Mdl} {p : Nat} (h : x.tm.length ≤ p) (h2 : p < (fullB x).length) : (fullB x)[p]? = some 0 := by
  unfold fullB at h2 ⊢
  rw [List.length_append, List.length_replicate] at h2
  rw [List.getElem?_append_right h, List.getElem?_replicate, if_pos (by omega)]
/-- Static modules' bytes: whole, in whatever order; or the templates alone. -/
theorem wr_same {t : Ts} {L : List Rg} (hs : SInv t L) {mz : List MdE} (hz : mz.Perm (t.ml.filter fun y => y.x.st)) {N : Int} (hN : t.ar ≤ ((zeros N).length : Int)) : wrL (zeros N) (mz.map wM) = wrL (zeros N) ((t.ml.map cvM).filterMap wD) := by
  have hmz : ∀ y, y ∈ mz ↔ y ∈ t.ml ∧ y.x.st = true := fun y => by rw [hz.mem_iff, List.mem_filter]
  have hfl : ∀ y ∈ t.ml, ((fullB y.x).length : Int) = y.x.size := fun y hy => fullB_len (hs.inv.ok y hy).1
  have hin : ∀ y ∈ t.ml, y.x.st = true → 0 ≤ y.x.bh ∧ y.x.bh + y.x.size ≤ t.ar ∧ 1 ≤ y.x.size ∧ (y.x.tm.length : Int) ≤ y.x.size := fun y hy hst => by
    obtain ⟨s1, s2⟩ := hs.sta y hy hst
    obtain ⟨z1, z2⟩ := hs.size hy
    obtain ⟨u1, -⟩ := upT_nn z1
    exact ⟨s1, by omega, z1, (hs.inv.ok y hy).1⟩
  have hdj : ∀ a ∈ t.ml, ∀ b ∈ t.ml, a.x.st = true → b.x.st = true → a ≠ b → a.x.bh + a.x.size ≤ b.x.bh ∨ b.x.bh + b.x.size ≤ a.x.bh := fun a ha b hb h1 h2 hne => by
    obtain ⟨i, hi⟩ := List.mem_iff_getElem?.1 ha
    obtain ⟨j, hj⟩ := List.mem_iff_getElem?.1 hb
    obtain ⟨u1, -⟩ := upT_nn (hs.size ha).1
    obtain ⟨u2, -⟩ := upT_nn (hs.size hb).1
    rcases Nat.lt_trichotomy i j with hl | hl | hl
    · have := pw_get hs.apart hi hj hl h1 h2; omega
    · subst hl; rw [hi] at hj; exact absurd (Option.some.inj hj) hne
    · have := pw_get hs.apart hj hi hl h2 h1; omega
  have hnd : t.ml.Nodup := by
    have := hs.inv.good.km
    unfold List.Nodup at this ⊢
    rw [List.pairwise_map] at this
    exact this.imp fun hab e => hab (by rw [e])
  have hfit1 : ∀ w ∈ mz.map wM, w.1 + w.2.length ≤ (zeros N).length := fun w hw => by
    obtain ⟨y, hy, rfl⟩ := List.mem_map.1 hw
    obtain ⟨hy1, hy2⟩ := (hmz y).1 hy
    obtain ⟨a1, a2, -, -⟩ := hin y hy1 hy2
    have := hfl y hy1
    show y.x.bh.toNat + (fullB y.x).length ≤ _
    omega
  have hmem2 : ∀ w ∈ (t.ml.map cvM).filterMap wD, ∃ y ∈ t.ml, y.x.st = true ∧ y.x.tm ≠ [] ∧ w = (y.x.bh.toNat, y.x.tm) := fun w hw => by
    obtain ⟨x, hx, hw⟩ := List.mem_filterMap.1 hw
    obtain ⟨y, hy, rfl⟩ := List.mem_map.1 hx
    unfold wD at hw
    split at hw
    · rename_i hc
      exact ⟨y, hy, hc.1, hc.2, (Option.some.inj hw).symm⟩
    · cases hw
  have hfit2 : ∀ w ∈ (t.ml.map cvM).filterMap wD, w.1 + w.2.length ≤ (zeros N).length := fun w hw => by
    obtain ⟨y, hy, h1, h2, rfl⟩ := hmem2 w hw
    obtain ⟨a1, a2, a3, a4⟩ := hin y hy h1
    show y.x.bh.toNat + y.x.tm.length ≤ _
    omega
  have hd1 : (mz.map wM).Pairwise DisjW := by
    rw [List.pairwise_map]
    have hmn : mz.Nodup := hz.nodup_iff.2 (hnd.sublist List.filter_sublist)
    refine List.Pairwise.imp_of_mem ?_ hmn
    intro a b ha hb hne
    obtain ⟨ha1, ha2⟩ := (hmz a).1 ha
    obtain ⟨hb1, hb2⟩ := (hmz b).1 hb
    have h3 := hdj a ha1 b hb1 ha2 hb2 hne
    have h4 := hfl a ha1
    have h5 := hfl b hb1
    have h6 := (hin a ha1 ha2).1
    have h7 := (hin b hb1 hb2).1
    show a.x.bh.toNat + (fullB a.x).length ≤ b.x.bh.toNat ∨ b.x.bh.toNat + (fullB b.x).length ≤ a.x.bh.toNat
    omega
  have hd2 : ((t.ml.map cvM).filterMap wD).Pairwise DisjW := by
    rw [List.pairwise_filterMap, List.pairwise_map]
    refine List.Pairwise.imp_of_mem ?_ hnd
    intro a b ha hb hne w1 hw1 w2 hw2
    unfold wD at hw1 hw2
    split at hw1
    · rename_i c1
      split at hw2
      · rename_i c2
        cases hw1
        cases hw2
        have h3 := hdj a ha b hb c1.1 c2.1 hne
        have h6 := hin a ha c1.1
        have h7 := hin b hb c2.1
        show a.x.bh.toNat + a.x.tm.length ≤ b.x.bh.toNat ∨ b.x.bh.toNat + b.x.tm.length ≤ a.x.bh.toNat
        omega
      · cases hw2
    · cases hw1
  refine List.ext_getElem? fun p => ?_
  by_cases hp : p < (zeros N).length
  rotate_left
  · rw [List.getElem?_eq_none (by rw [wrL_len _ _ hfit1]; omega), List.getElem?_eq_none (by rw [wrL_len _ _ hfit2]; omega)]
  by_cases hc : ∃ y ∈ t.ml, y.x.st = true ∧ Covers (wM y) p
  · obtain ⟨y, hy, hst, hcov⟩ := hc
    rw [wrL_some _ _ p (wM y) hfit1 hd1 (List.mem_map_of_mem ((hmz y).2 ⟨hy, hst⟩)) hcov]
    obtain ⟨c1, c2⟩ := hcov
    have c1' : y.x.bh.toNat ≤ p := c1
    have c2' : p < y.x.bh.toNat + (fullB y.x).length := c2
    show (fullB y.x)[p - y.x.bh.toNat]? = _
    by_cases ht : p - y.x.bh.toNat < y.x.tm.length
    · have hne : y.x.tm ≠ [] := by intro hh; rw [hh] at ht; simp at ht
      rw [wrL_some _ _ p (y.x.bh.toNat, y.x.tm) hfit2 hd2 (List.mem_filterMap.2 ⟨cvM y, List.mem_map_of_mem hy, by unfold wD; rw [if_pos ⟨hst, hne⟩]; rfl⟩) ⟨c1', by show p < y.x.bh.toNat + y.x.tm.length; omega⟩]
      unfold fullB
      exact List.getElem?_append_left ht
    · rw [wrL_none _ _ p hfit2 (fun w hw hcw => by
        obtain ⟨z, hz1, hz2, hz3, rfl⟩ := hmem2 w hw
        obtain ⟨k1, k2⟩ := hcw
        have k1' : z.x.bh.toNat ≤ p := k1
        have k2' : p < z.x.bh.toNat + z.x.tm.length := k2
        by_cases hyz : y = z
        · subst hyz; omega
        · have h3 := hdj y hy z hz1 hst hz2 hyz
          have h4 := hfl y hy
          have h6 := hin y hy hst
          have h7 := hin z hz1 hz2
          omega), zeros_get hp]
      exact full_get (by omega) (by omega)
  · rw [wrL_none _ _ p hfit1 (fun w hw hcw => by
      obtain ⟨y, hy, rfl⟩ := List.mem_map.1 hw
      obtain ⟨hy1, hy2⟩ := (hmz y).1 hy
      exact hc ⟨y, hy1, hy2, hcw⟩), wrL_none _ _ p hfit2 (fun w hw hcw => by
      obtain ⟨z, hz1, hz2, hz3, rfl⟩ := hmem2 w hw
      refine hc ⟨z, hz1, hz2, ?_⟩
      obtain ⟨k1, k2⟩ := hcw
      have k1' : z.x.bh.toNat ≤ p := k1
      have k2' : p < z.x.bh.toNat + z.x.tm.length := k2
      have h4 := hfl z hz1
      have h7 := hin z hz1 hz2
      exact ⟨k1', by show p < z.x.bh.toNat + (fullB z.x).length; omega⟩)]
/-- What Start lays. -/
theorem start_same {t : Ts} {L : List Rg} (hs : SInv t L) {mz : List MdE} (hz : mz.Perm (t.ml.filter fun y => y.x.st)) (he : (mapS L (max 8 t.ar) 3).2.2 = 0) : pokes (mapS L (max 8 t.ar) 3).2.1 (mapS L (max 8 t.ar) 3).1 mz = fillsS (mapS L (max 8 t.ar) 3).2.1 (mapS L (max 8 t.ar) 3).1 (t.ml.map cvM) := by
  have hok := hs.ok.map (max 8 t.ar) 3
  have hmem : (⟨(mapS L (max 8 t.ar) 3).2.1, up (max 8 t.ar), 3, zeros (up (max 8 t.ar))⟩ : Rg) ∈ (mapS L (max 8 t.ar) 3).1 := (mapS_perm hs.ok he).mem_iff.2 (List.mem_cons_self ..)
  obtain ⟨i, hi⟩ := List.mem_iff_getElem?.1 hmem
  have a0 := hs.a0
  have a1 := hs.a1
  obtain ⟨u1, -⟩ := up_ge (max 8 t.ar) (by omega)
  have hro := hok.each _ hmem
  have hlen : ((zeros (up (max 8 t.ar))).length : Int) = up (max 8 t.ar) := hro.len
  have hin : ∀ y ∈ t.ml, y.x.st = true → 0 ≤ y.x.bh ∧ y.x.bh + y.x.size ≤ up (max 8 t.ar) ∧ 1 ≤ y.x.size ∧ (y.x.tm.length : Int) ≤ y.x.size := fun y hy hst => by
    obtain ⟨s1, s2⟩ := hs.sta y hy hst
    obtain ⟨z1, z2⟩ := hs.size hy
    obtain ⟨u1, -⟩ := upT_nn z1
    exact ⟨s1, by omega, z1, (hs.inv.ok y hy).1⟩
  have e1 := pokes_bs mz _ _ hok hi (fun y hy => by
    obtain ⟨hy1, hy2⟩ := List.mem_filter.1 (hz.mem_iff.1 hy)
    exact hin y hy1 hy2)
  have e2 := fills_bs (t.ml.map cvM) _ _ hok hi (fun x hx hst => by
    obtain ⟨y, hy, rfl⟩ := List.mem_map.1 hx
    obtain ⟨b1, b2, b3, b4⟩ := hin y hy hst
    exact ⟨b1, by show y.x.bh + y.x.tm.length ≤ up (max 8 t.ar); omega⟩)
  refine e1.trans (Eq.trans ?_ e2.symm)
  have e3 := wr_same hs hz (N := up (max 8 t.ar)) (by omega)
  refine List.ext_getElem? fun j => ?_
  rw [List.getElem?_modify, List.getElem?_modify]
  by_cases hij : i = j
  · subst hij
    rw [hi]
    simp only [Option.map_eq_map, Option.map_some, if_true, e3]
  · simp [hij]
/-- What Address lays. -/
theorem addr_same {t : Ts} {L : List Rg} (hs : SInv t L) {y : MdE} (hy : y ∈ t.ml) (he : (mapS L y.x.size 3).2.2 = 0) : (setS (mapS L y.x.size 3).1 (mapS L y.x.size 3).2.1 (fullB y.x) 0).1 = fillS (mapS L y.x.size 3).1 (mapS L y.x.size 3).2.1 (cvM y) := by
  have hok := hs.ok.map y.x.size 3
  have hmem : (⟨(mapS L y.x.size 3).2.1, up y.x.size, 3, zeros (up y.x.size)⟩ : Rg) ∈ (mapS L y.x.size 3).1 := (mapS_perm hs.ok he).mem_iff.2 (List.mem_cons_self ..)
  obtain ⟨i, hi⟩ := List.mem_iff_getElem?.1 hmem
  obtain ⟨z1, z2⟩ := hs.size hy
  have z3 := (hs.inv.ok y hy).1
  obtain ⟨u1, -⟩ := up_ge y.x.size z1
  have hro := hok.each _ hmem
  have hlen : ((zeros (up y.x.size)).length : Int) = up y.x.size := hro.len
  have hfl := fullB_len z3
  have hne : fullB y.x ≠ [] := by intro hh; rw [hh] at hfl; simp at hfl; omega
  have e1 := set_modify hok hi (off := 0) (b := fullB y.x) (Int.le_refl _) (by show 0 + ((fullB y.x).length : Int) ≤ up y.x.size; omega) hne
  have e1' : (setS (mapS L y.x.size 3).1 (mapS L y.x.size 3).2.1 (fullB y.x) 0).1 = (mapS L y.x.size 3).1.modify i (fun r => { r with bs := over r.bs 0 (fullB y.x) }) := by
    have h9 := congrArg Prod.fst e1
    have h8 : (mapS L y.x.size 3).2.1 + 0 = (mapS L y.x.size 3).2.1 := by omega
    rw [show (⟨(mapS L y.x.size 3).2.1, up y.x.size, 3, zeros (up y.x.size)⟩ : Rg).at_ + 0 = (mapS L y.x.size 3).2.1 from h8] at h9
    exact h9
  rw [e1']
  have hover : over (zeros (up y.x.size)) 0 (fullB y.x) = over (zeros (up y.x.size)) 0 y.x.tm := by
    refine List.ext_getElem? fun p => ?_
    have hb : y.x.tm.length ≤ (zeros (up y.x.size)).length := by omega
    have hb2 : (fullB y.x).length ≤ (zeros (up y.x.size)).length := by omega
    by_cases hp : p < (fullB y.x).length
    · rw [over_atT (by omega) ⟨Nat.zero_le _, by omega⟩, Nat.sub_zero]
      by_cases hp2 : p < y.x.tm.length
      · rw [over_atT (by omega) ⟨Nat.zero_le _, by omega⟩, Nat.sub_zero]
        unfold fullB
        exact List.getElem?_append_left hp2
      · rw [over_not (by omega) (by omega), full_get (by omega) hp, zeros_get (by omega)]
    · rw [over_not (by omega) (by omega), over_not (by omega) (by omega)]
  unfold fillS
  show _ = if y.x.tm = [] then _ else (setS _ _ y.x.tm 0).1
  by_cases htm : y.x.tm = []
  · rw [if_pos htm]
    rw [htm] at hover
    refine List.ext_getElem? fun j => ?_
    rw [List.getElem?_modify]
    by_cases hij : i = j
    · subst hij
      rw [hi]
      simp only [Option.map_eq_map, Option.map_some, if_true, hover]
      simp [over]
    · simp [hij]
  · rw [if_neg htm]
    have e2 := set_modify hok hi (off := 0) (b := y.x.tm) (Int.le_refl _) (by show 0 + ((y.x.tm).length : Int) ≤ up y.x.size; omega) htm
    have h9 := congrArg Prod.fst e2
    have h8 : (mapS L y.x.size 3).2.1 + 0 = (mapS L y.x.size 3).2.1 := by omega
    rw [show (⟨(mapS L y.x.size 3).2.1, up y.x.size, 3, zeros (up y.x.size)⟩ : Rg).at_ + 0 = (mapS L y.x.size 3).2.1 from h8] at h9
    rw [h9]
    refine List.ext_getElem? fun j => ?_
    rw [List.getElem?_modify, List.getElem?_modify]
    by_cases hij : i = j
    · subst hij
      rw [hi]
      simp only [Option.map_eq_map, Option.map_some, if_true]
      exact congrArg (fun q => some (Rg.mk _ _ _ q)) hover
    · simp [hij]
/-- THE PLAIN LAW of Start. -/
theorem Sim.start {t : Ts} {L : List Rg} {d d' : Dt} {id n r n2 r2 : Int} {t' : Ts} {L' L2 : List Rg} (h : Sim t d) (hs : SInv t L) (hp : StartP t L id n r t' L') (hq : DStartP d L id n2 r2 d' L2) : n2 = n ∧ r2 = r ∧ L2 = L' ∧ Sim t' d' := by
  unfold StartP at hp
  unfold DStartP at hq
  have hiso : (efind ThE.k t.tl id).isSome = (efind DT.id d.tl id).isSome := by
    rcases h.th (id := id) with ⟨e1, e2⟩ | ⟨x, y, e1, e2, -⟩ <;> rw [e1, e2] <;> rfl
  rw [← hiso, h.ar] at hq
  by_cases h1 : (efind ThE.k t.tl id).isSome = true ∨ id < 0 ∨ 16 ≤ id
  · rw [if_pos h1] at hp hq
    obtain ⟨rfl, rfl, rfl, rfl⟩ := hp
    obtain ⟨rfl, rfl, rfl, rfl⟩ := hq
    exact ⟨rfl, rfl, rfl, h⟩
  rw [if_neg h1] at hp hq
  by_cases h2 : (mapS L (max 8 t.ar) 3).2.2 = 0
  · rw [if_pos h2] at hp hq
    obtain ⟨rfl, rfl, ⟨g, rfl⟩, mz, hz, rfl⟩ := hp
    obtain ⟨rfl, rfl, rfl, vt, rfl⟩ := hq
    have hno : efind ThE.k t.tl id = none ∧ efind DT.id d.tl id = none := by
      rcases h.th (id := id) with he | ⟨x, y, e1, e2, -⟩
      · exact he
      · exact absurd (.inl (by rw [e1]; rfl)) h1
    refine ⟨rfl, rfl, by rw [h.mods]; exact (start_same hs hz h2).symm, h.mods, fun j => ?_, ?_, h.gens, rfl, rfl, h.gll, h.bh0⟩
    · show ThSim (efind ThE.k (t.tl ++ [_]) j) (efind DT.id (d.tl ++ [_]) j)
      by_cases hj : j = id
      · subst hj
        rw [efind_app_none hno.1, efind_app_none hno.2]
        unfold efind
        rw [if_pos rfl, if_pos rfl]
        exact ⟨rfl, rfl⟩
      · rcases h.th (id := j) with ⟨e1, e2⟩ | ⟨x, y, e1, e2, h5, h6⟩
        · rw [efind_app_none e1, efind_app_none e2]
          unfold efind
          rw [if_neg hj, if_neg hj]
          trivial
        · rw [efind_app e1, efind_app e2]
          exact ⟨h5, h6⟩
    · show ((d.tl ++ [_]).map DT.id).Nodup
      rw [List.map_append, List.nodup_append]
      refine ⟨h.ids, by simp, fun a ha b hb => ?_⟩
      have hb' : b = id := by simpa using hb
      subst hb'
      intro e
      subst e
      obtain ⟨y, hy, hyk⟩ := List.mem_map.1 ha
      exact efind_none_ne hno.2 y hy hyk
  · rw [if_neg h2] at hp hq
    obtain ⟨rfl, rfl, rfl, rfl⟩ := hp
    obtain ⟨rfl, rfl, rfl, rfl⟩ := hq
    exact ⟨rfl, rfl, rfl, h⟩
/-- .. of Address. -/
theorem Sim.addr {t : Ts} {L : List Rg} {d d' : Dt} {id n off p r p2 r2 : Int} {t' : Ts} {L' L2 : List Rg} (h : Sim t d) (hs : SInv t L) (hp : AddrP t L id n off p r t' L') (hq : DAddrP d L id n off p2 r2 d' L2) : p2 = p ∧ r2 = r ∧ L2 = L' ∧ Sim t' d' := by
  unfold AddrP at hp
  unfold DAddrP at hq
  rcases h.th (id := id) with ⟨e1, e2⟩ | ⟨x, y, e1, e2, h5, h6⟩
  · rw [e1] at hp
    rw [e2] at hq
    obtain ⟨rfl, rfl, rfl, rfl⟩ := hp
    obtain ⟨rfl, rfl, rfl, rfl⟩ := hq
    exact ⟨rfl, rfl, rfl, h⟩
  rw [e1] at hp
  rw [e2] at hq
  dsimp only at hp hq
  rw [h.fm] at hq
  have hxm := (efind_mem e1).1
  cases hm : efind MdE.k t.ml n with
  | none =>
    rw [hm] at hp hq
    obtain ⟨rfl, rfl, rfl, rfl⟩ := hp
    obtain ⟨rfl, rfl, rfl, rfl⟩ := hq
    exact ⟨rfl, rfl, rfl, h⟩
  | some m =>
    rw [hm] at hp hq
    dsimp only [Option.map_some] at hp hq
    have hmm := (efind_mem hm).1
    by_cases ho : off < 0 ∨ m.x.size ≤ off
    · rw [if_pos ho] at hp
      rw [if_pos (show off < 0 ∨ (cvM m).sz ≤ off from ho)] at hq
      obtain ⟨rfl, rfl, rfl, rfl⟩ := hp
      obtain ⟨rfl, rfl, rfl, rfl⟩ := hq
      exact ⟨rfl, rfl, rfl, h⟩
    rw [if_neg ho] at hp
    rw [if_neg (show ¬ (off < 0 ∨ (cvM m).sz ≤ off) from ho)] at hq
    by_cases hst : m.x.st = true
    · rw [if_pos hst] at hp
      rw [if_pos (show (cvM m).st = true from hst)] at hq
      obtain ⟨rfl, rfl, rfl, rfl⟩ := hp
      obtain ⟨rfl, rfl, rfl, rfl⟩ := hq
      exact ⟨by rw [h5]; rfl, rfl, rfl, h⟩
    rw [if_neg hst] at hp
    rw [if_neg (show ¬ (cvM m).st = true from hst)] at hq
    rw [h6, hs.bl_find hxm] at hq
    unfold AddrBP at hp
    cases hb : efind BkE.k x.bl n with
    | some b =>
      rw [hb] at hp hq
      obtain ⟨rfl, rfl, rfl, rfl⟩ := hp
      obtain ⟨rfl, rfl, rfl, rfl⟩ := hq
      exact ⟨rfl, rfl, rfl, h⟩
    | none =>
      rw [hb] at hp hq
      dsimp only [Option.map_none] at hp hq
      by_cases he : (mapS L m.x.size 3).2.2 = 0
      · rw [if_pos he] at hp
        rw [if_pos (show (mapS L (cvM m).sz 3).2.2 = 0 from he)] at hq
        obtain ⟨rfl, rfl, rfl, rfl⟩ := hp
        obtain ⟨rfl, rfl, rfl, l1, l2, A, c, hl, hl1, rfl⟩ := hq
        refine ⟨rfl, rfl, (addr_same hs hmm he).symm, h.mods, fun j => ?_, ?_, h.gens, h.sd, h.ar, h.gll, h.bh0⟩
        · show ThSim (efind ThE.k (addB id n x m (mapS L m.x.size 3).2.1 t.tl) j) (efind DT.id (l1 ++ _ :: l2) j)
          have hskip : ∀ (z : DT) (j : Int), z.id = id → efind DT.id (l1 ++ z :: l2) j = if j = id then some z else efind DT.id (l1 ++ l2) j := fun z j hz => by
            by_cases hj : j = id
            · rw [if_pos hj, hj, efind_app_none (efind_none_of hl1)]
              unfold efind
              rw [if_pos hz.symm]
            · rw [if_neg hj]
              cases hf : efind DT.id l1 j with
              | some q => rw [efind_app hf, efind_app hf]
              | none =>
                rw [efind_app_none hf, efind_app_none hf]
                conv => lhs; unfold efind
                rw [if_neg (by rw [hz]; exact hj)]
          have hyid : y.id = id := (efind_mem e2).2
          rw [hskip _ j (by exact hyid)]
          by_cases hj : j = id
          · subst hj
            rw [if_pos rfl, addB_find e1]
            exact ⟨h5, by show x.bl.map (·.x) ++ [_] = List.map (·.x) (x.bl ++ [_]); rw [List.map_append]; rfl⟩
          · rw [if_neg hj, addB_find_ne hj]
            have := h.thr j
            rw [hl, hskip y j hyid, if_neg hj] at this
            exact this
        · have := h.ids
          rw [hl] at this
          rw [List.map_append, List.map_cons] at this ⊢
          exact this
      · rw [if_neg he] at hp
        rw [if_neg (show ¬ (mapS L (cvM m).sz 3).2.2 = 0 from he)] at hq
        obtain ⟨rfl, rfl, rfl, rfl⟩ := hp
        obtain ⟨rfl, rfl, rfl, rfl⟩ := hq
        exact ⟨rfl, rfl, rfl, h⟩
/-! ### Blocks, Static -/
theorem sort_range {l : List Int} (hn : l.Nodup) (hb : ∀ x ∈ l, 1 ≤ x ∧ x ≤ 64) : l.mergeSort leI = (((List.range' 1 64).map fun n : Nat => (n : Int)).filter fun n => decide (n ∈ l)) := by
  have hp : l.Perm (((List.range' 1 64).map fun n : Nat => (n : Int)).filter fun n => decide (n ∈ l)) := by
    refine (List.perm_ext_iff_of_nodup hn ?_).2 fun a => ?_
    · refine List.Nodup.sublist List.filter_sublist ?_
      unfold List.Nodup
      rw [List.pairwise_map]
      refine List.Pairwise.imp ?_ (List.pairwise_lt_range' (s := 1) (n := 64))
      intro a b hab
      omega
    · rw [List.mem_filter, decide_eq_true_iff]
      constructor
      · intro ha
        obtain ⟨b1, b2⟩ := hb a ha
        exact ⟨List.mem_map.2 ⟨a.toNat, by rw [List.mem_range'_1]; omega, by omega⟩, ha⟩
      · exact fun h => h.2
  rw [mergeSort_of_perm_i hp]
  refine List.mergeSort_of_pairwise ?_
  refine List.Pairwise.sublist List.filter_sublist ?_
  rw [List.pairwise_map]
  refine List.Pairwise.imp ?_ (List.pairwise_lt_range' (s := 1) (n := 64))
  intro a b hab
  show decide _ = true
  rw [decide_eq_true_iff]
  omega
theorem Sim.blks {t : Ts} {L : List Rg} {d : Dt} (h : Sim t d) (hs : SInv t L) (id : Int) : dBlks d id = blksS t id := by
  unfold dBlks blksS
  rcases h.th (id := id) with ⟨e1, e2⟩ | ⟨x, y, e1, e2, h5, h6⟩
  · rw [e1, e2]
  rw [e1, e2]
  have hxm := (efind_mem e1).1
  show _ = (keysS t).filterMap (blk1 t.ml x)
  have hk : keysS t = (((List.range' 1 64).map fun n : Nat => (n : Int)).filter fun n => decide (n ∈ t.ml.map MdE.k)) := by
    unfold keysS
    exact sort_range hs.inv.good.km (fun z hz => by
      obtain ⟨m, hm, rfl⟩ := List.mem_map.1 hz
      exact ⟨hs.k1 m hm, (hs.inv.key m hm).1⟩)
  rw [hk, List.filter_map, List.filterMap_map]
  have hone : ∀ n : Nat, dBlk1 d.ml y (n : Int) = if (n : Int) ∈ t.ml.map MdE.k then (blk1 t.ml x (n : Int)).toList else [] := fun n => by
    unfold dBlk1 blk1
    rw [h.fm]
    cases hm : efind MdE.k t.ml (n : Int) with
    | none =>
      show ([] : List Bk) = if (n : Int) ∈ t.ml.map MdE.k then Option.toList none else []
      by_cases hn : (n : Int) ∈ t.ml.map MdE.k
      · rw [if_pos hn]; rfl
      · rw [if_neg hn]
    | some m =>
      obtain ⟨hmm, hmk⟩ := efind_mem hm
      rw [if_pos (by rw [← hmk]; exact List.mem_map_of_mem hmm)]
      show (if (cvM m).st = true then _ else _) ++ _ = Option.toList (if m.x.st = true then _ else _)
      rw [h6, find_filter (hs.bl_nodup hxm), hs.bl_find hxm]
      by_cases hst : m.x.st = true
      · rw [if_pos (show (cvM m).st = true from hst), if_pos hst, h5]
        have hnone : efind BkE.k x.bl (n : Int) = none := by
          cases hb : efind BkE.k x.bl (n : Int) with
          | none => rfl
          | some e =>
            obtain ⟨he, hek⟩ := efind_mem hb
            obtain ⟨m', hm', hst', -⟩ := hs.bk x hxm e he
            rw [hek, hm] at hm'
            obtain rfl := Option.some.inj hm'
            rw [hst] at hst'
            cases hst'
        rw [hnone]
        rfl
      · rw [if_neg (show ¬ (cvM m).st = true from hst), if_neg hst]
        rfl
  have hgen : ∀ l : List Nat, (l.flatMap fun (n : Nat) => dBlk1 d.ml y (n : Int)) = (l.filter fun n : Nat => decide ((n : Int) ∈ t.ml.map MdE.k)).filterMap fun n : Nat => blk1 t.ml x (n : Int) := fun l => by
    induction l with
    | nil => rfl
    | cons n l ih =>
      rw [List.flatMap_cons, List.filter_cons, hone, ih]
      by_cases hn : (n : Int) ∈ t.ml.map MdE.k
      · rw [if_pos hn, if_pos (by simpa using hn), List.filterMap_cons]
        cases blk1 t.ml x (n : Int) <;> rfl
      · rw [if_neg hn, if_neg (by simpa using hn)]
        rfl
  exact hgen _
end Go.Proofs.YtpenejigebkkmaaGreat
