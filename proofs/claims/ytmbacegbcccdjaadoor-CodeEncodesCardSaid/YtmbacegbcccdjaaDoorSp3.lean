/-
  Layer 5: set, Write, Poke, SetWord, PokeWord of the program.
  Layer 5: Write, Poke, SetWord, PokeWord of the program.
  Layer 5: slices.Insert at regions.
  Layer 5: MapAt of the program.
  Layer 5: MapAt of the program.
  Conditions: none. (My own text.)
-/
import Derived.Test.YtmbacegbcccdjaaDoorSp2
import Derived.Shelf.Spec.SlicesInsert
import Derived.Shelf.Spec.SlicesInsertGrow
import Derived.Deep.RegionLaw
import Derived.Deep.RegionHeld3
import Derived.Deep.DeepCutAuto
import Derived.Deep.RegionWith
import Derived.Laws.MakeOwn
namespace Go.Proofs.YtmbacegbcccdjaaDoor
open Go.RowKit Spm
set_option linter.unusedVariables false
set_option linter.unusedSimpArgs false
open Go.Proofs

/-- Bytes written over a region's. -/
def setQ (q : RowP) (o : Nat) (b : List UInt8) : RowP := ({ q.1 with bs := over q.1.bs o b }, q.2)
theorem over_len (l b : List UInt8) (o : Nat) (h : o + b.length ≤ l.length) : (over l o b).length = l.length := by unfold over; simp; omega
theorem setQ_cells (q : RowP) (o : Nat) (b : List UInt8) (h : o + b.length ≤ q.1.bs.length) : rgC (setQ q o b) = rgC q := by
  unfold rgC setQ
  simp only [over_len _ _ _ h]
theorem flatMap_modify {α β : Type} (f : α → List β) (g : α → α) : ∀ (l : List α) (k : Nat), (∀ x, l[k]? = some x → f (g x) = f x) → (l.modify k g).flatMap f = l.flatMap f
  | [], k, _ => by simp
  | x :: l, 0, h => by simp [h x rfl]
  | x :: l, k + 1, h => by simp [flatMap_modify f g l k (fun y hy => h y (by simpa using hy))]
theorem map_modify_same {α β : Type} (f : α → β) (g : α → α) (h : ∀ x, f (g x) = f x) : ∀ (l : List α) (k : Nat), (l.modify k g).map f = l.map f
  | [], k => by simp
  | x :: l, 0 => by simp [h x]
  | x :: l, k + 1 => by simp [map_modify_same f g h l k]
theorem map_modify {α β : Type} (f : α → β) (g : α → α) (g' : β → β) (h : ∀ x, f (g x) = g' (f x)) : ∀ (l : List α) (k : Nat), (l.modify k g).map f = (l.map f).modify k g'
  | [], k => by simp
  | x :: l, 0 => by simp [h x]
  | x :: l, k + 1 => by simp [map_modify f g g' h l k]
theorem foot_modify (a : Nat) (v : Value) (Q : List RowP) (k o : Nat) (b : List UInt8) : foot a v (Q.modify k (setQ · o b)) = foot a v Q := by
  unfold foot
  rw [map_modify_same (fun q : RowP => q.2.1) (setQ · o b) (fun _ => rfl)]
theorem setRow_size (w : World) (g : Nat) (cs : Array Value) : (w.setRow g cs).heap.size = w.heap.size := by simp [World.setRow]
theorem keeps_setRow (F : Nat → Prop) (w : World) (g : Nat) (cs : Array Value) (h : F g) : Keeps F w (w.setRow g cs) :=
  ⟨rfl, rfl, rfl, by rw [setRow_size]; exact Nat.le_refl _, fun k _ hn => setRow_other w g k cs (fun e => hn (e ▸ h))⟩
theorem mem_modify {α : Type} {g : α → α} : ∀ {l : List α} {k : Nat} {x : α}, x ∈ l.modify k g → (∃ y, l[k]? = some y ∧ x = g y) ∨ ∃ i, i ≠ k ∧ l[i]? = some x := by
  intro l k x hx
  obtain ⟨i, hi⟩ := List.mem_iff_getElem?.1 hx
  rw [List.getElem?_modify] at hi
  by_cases hik : k = i
  · subst hik
    cases hl : l[k]? with
    | none => rw [hl] at hi; simp at hi
    | some y => rw [hl] at hi; exact .inl ⟨y, rfl, by simpa using hi.symm⟩
  · refine .inr ⟨i, fun h => hik h.symm, ?_⟩
    cases hl : l[i]? with
    | none => rw [hl] at hi; simp at hi
    | some y => rw [hl] at hi; simpa [hik] using hi

section
variable {ts tr : TypeId} {w : World} {a : Nat} {v : Value} {Q : List RowP}
theorem Spc.curOf (h : Spc ts tr w a v Q) {q : RowP} (hq : q ∈ Q) : ∃ cur : Array Value, w.heap[q.2.1]? = some (.cells cur 5 (0, 0)) ∧ q.1.bs.length ≤ q.2.2 ∧ q.2.2 ≤ maxLen ∧ cur.size = q.2.2 ∧ cur.toList.take q.1.bs.length = q.1.bs.map byC := by
  rcases (h.each q hq).2 with ⟨hv, hn⟩ | ⟨g, cap, cur, hv, hb, hg, hl, hm, hs, ht⟩
  · simp [byV] at hv
  · simp only [byV, Value.slice.injEq, Option.some.injEq, Addr.mk.injEq] at hv
    obtain ⟨⟨hg1, _⟩, _, hc⟩ := hv
    subst hg1 hc
    exact ⟨cur, hg, hl, hm, by simpa using hs, by simpa using ht⟩
theorem nodup_ne {a : Nat} {v : Value} {Q : List RowP} (h : (foot a v Q).Nodup) {i j : Nat} {p q : RowP} (hp : Q[i]? = some p) (hq : Q[j]? = some q) (hij : i ≠ j) : p.2.1 ≠ q.2.1 := by
  unfold foot at h
  have h1 := (List.nodup_append.1 (List.nodup_cons.1 h).2).2.1
  intro e
  have hl : i < (Q.map (·.2.1)).length := by have := (List.getElem?_eq_some_iff.1 hp).1; simpa using this
  exact hij ((List.getElem?_inj hl h1).1 (by rw [List.getElem?_map, List.getElem?_map, hp, hq]; simp [e]))
theorem nodup_a {a : Nat} {v : Value} {Q : List RowP} (h : (foot a v Q).Nodup) {q : RowP} (hq : q ∈ Q) : a ≠ q.2.1 := by
  unfold foot at h
  intro e
  exact (List.nodup_cons.1 h).1 (List.mem_append_right _ (List.mem_map.2 ⟨q, hq, e.symm⟩))
theorem nodup_v {a : Nat} {v : Value} {Q : List RowP} (h : (foot a v Q).Nodup) {q : RowP} (hq : q ∈ Q) {g : Nat} (hv : v.ownBlock = some g) : g ≠ q.2.1 := by
  unfold foot at h
  have h1 := (List.nodup_append.1 (List.nodup_cons.1 h).2).2.2
  exact h1 g (by rw [hv]; simp) q.2.1 (List.mem_map.2 ⟨q, hq, rfl⟩)
theorem nodup_av {a : Nat} {v : Value} {Q : List RowP} (h : (foot a v Q).Nodup) {g : Nat} (hv : v.ownBlock = some g) : a ≠ g := by
  unfold foot at h
  intro e
  exact (List.nodup_cons.1 h).1 (List.mem_append_left _ (by rw [hv]; simp [e]))

theorem take_over {cur : List Value} {l b : List UInt8} {o : Nat} (h : o + b.length ≤ l.length) (hc : cur.take l.length = l.map byC) :
    (cur.take o ++ b.map byC ++ cur.drop (o + (b.map byC).length)).take (over l o b).length = (over l o b).map byC := by
  have hlen : l.length ≤ cur.length := by
    have := congrArg List.length hc
    simp at this
    omega
  rw [over_len l b o h]
  have h1 : cur.take o = (l.take o).map byC := by
    rw [← List.map_take.symm, ← hc, List.take_take, Nat.min_eq_left (by omega)]
  have h2 : (cur.drop (o + (b.map byC).length)).take (l.length - (o + b.length)) = (l.drop (o + b.length)).map byC := by
    rw [List.map_drop, ← hc, List.length_map, List.drop_take]
  have h3 : ((l.take o).map byC ++ b.map byC).length = o + b.length := by simp; omega
  rw [h1, List.take_append, List.take_of_length_le (by rw [h3]; omega), h3, h2]
  unfold over
  simp

/-- THE WRITE: a stretch of a region's bytes is written over. -/
theorem Spc.write (h : Spc ts tr w a v Q) {k : Nat} {q : RowP} (hq : Q[k]? = some q) {o : Nat} {b : List UInt8} (ho : o + b.length ≤ q.1.bs.length) {cur : Array Value}
    (hg : w.heap[q.2.1]? = some (.cells cur 5 (0, 0))) (hcs : cur.size = q.2.2) (hct : cur.toList.take q.1.bs.length = q.1.bs.map byC) :
    Spc ts tr (w.setRow q.2.1 (cur.toList.take o ++ b.map byC ++ cur.toList.drop (o + (b.map byC).length)).toArray) a v (Q.modify k (setQ · o b)) := by
  have hm := List.mem_of_getElem? hq
  have hcm := (h.bys hm).2.1
  refine ⟨?_, ?_, ?_, ?_⟩
  · exact (setRow_other w _ a _ (nodup_a h.nd hm)).trans h.box
  · rw [flatMap_modify rgC (setQ · o b) Q k (fun x hx => by rw [hq] at hx; cases hx; exact setQ_cells q o b ho), List.length_modify]
    exact owns_block h.row (fun g hv => setRow_other w _ g _ (nodup_v h.nd hm hv))
  · intro x hx
    rcases mem_modify hx with ⟨y, hy, rfl⟩ | ⟨i, hi, hxi⟩
    · rw [hq] at hy
      cases hy
      refine ⟨by simp, .inr ⟨q.2.1, q.2.2, _, rfl, Nat.zero_le _, setRow_heap w q.2.1 cur _ _ _ hg, ?_, (h.bys hm).2.2.1, ?_, ?_⟩⟩
      · show (over q.1.bs o b).length ≤ _
        rw [over_len _ _ _ ho]; exact hcm
      · simp only [List.size_toArray, List.length_append, List.length_take, List.length_drop, Array.length_toList, List.length_map, Nat.mul_one]
        omega
      · have := take_over ho hct
        simpa [setQ] using this
    · exact owns_block (h.each x (List.mem_of_getElem? hxi)) (fun g hv => by
        simp [byV, Value.ownBlock] at hv
        subst hv
        exact setRow_other w _ _ _ (nodup_ne h.nd hxi hq hi))
  · rw [foot_modify]; exact h.nd
end

theorem setS_arg {L : List Rg} {at_ p : Int} {b : List UInt8} (h : b.length < 1 ∨ 1048576 < b.length) : setS L at_ b p = (L, 1) := by unfold setS; exact if_pos h
theorem setS_bad {L : List Rg} {at_ p : Int} {b : List UInt8} (h1 : ¬ (b.length < 1 ∨ 1048576 < b.length)) (h : partS L at_ b.length p ≠ 0) : setS L at_ b p = (L, partS L at_ b.length p) := by
  unfold setS; rw [if_neg h1, if_pos h]
theorem setS_ok {L : List Rg} {at_ p : Int} {b : List UInt8} (h1 : ¬ (b.length < 1 ∨ 1048576 < b.length)) (h : partS L at_ b.length p = 0) : setS L at_ b p = (L.modify (partK L at_) (fun r => { r with bs := over r.bs (at_ - r.at_).toNat b }), 0) := by
  unfold setS; rw [if_neg h1, if_neg (by simp [h])]

end Go.Proofs.YtmbacegbcccdjaaDoor

namespace Go.Proofs.YtmbacegbcccdjaaDoor
open Go.RowKit Spm
set_option linter.unusedVariables false
set_option linter.unusedSimpArgs false

/-- Where the bytes stand that are to be written. -/
def SrcB (w : World) (A : Option Addr) (b : List UInt8) : Prop := b ≠ [] → ∃ bb off, A = some ⟨bb, off, none⟩ ∧ (∀ j x, b[j]? = some x → w.cell? ⟨bb, off + j, none⟩ = some (byC x))

end Go.Proofs.YtmbacegbcccdjaaDoor

namespace Go.Proofs.YtmbacegbcccdjaaDoor
open Go.RowKit Spm
set_option linter.unusedVariables false
set_option linter.unusedSimpArgs false
open Go.Lib Go.Proofs

theorem run_copy_rowN (P : Program) (w : World) (dT sT ty elem : TypeId) (s g o dLen dCap : Nat) (a : Addr) (sLen sCap : Nat) (cur : Array Value) (t : TypeId) (cs : List Value)
    (hu : P.underlying dT = some (.slice elem)) (hs : (P.info? elem).map (·.size) = some s)
    (hg : w.heap[g]? = some (.cells cur t (0, 0))) (hn : cs.length = Nat.min sLen dLen * s)
    (hsrc : ∀ j v, cs[j]? = some v → w.cell? (a.add j) = some v) (hfit : o + cs.length ≤ cur.size) (h1 : ∀ v ∈ cs, v.oneCell' = true) :
    (Builtin.copy_ #[dT, sT] ty #[.slice (some ⟨g, o, none⟩) dLen dCap, .slice (some a) sLen sCap]).run P w =
      .ok (goInt (Nat.min sLen dLen)) (w.setRow g (cur.toList.take o ++ cs ++ cur.toList.drop (o + cs.length)).toArray) := by
  have hl := run_loadCells_list (P := P) w a cs hsrc
  have hst := run_storeCells_at P g o t cs 0 cur w hg (by simpa using hfit) h1
  cases hq : P.info? elem with
  | none => simp [hq] at hs
  | some i =>
    have hi : i.size = s := by simpa [hq] using hs
    simp [Builtin.copy_, run_underlying hu, Builtin.lenOf, Builtin.firstCells, sizeOf, typeInfo, hq, hi, ← hn, hl, hst]

/-- Cells put in. -/
def putIn (xs news : List Value) (k : Nat) : List Value := xs.take k ++ news ++ xs.drop k

theorem shift_list {C xs news : List Value} {i n : Nat} (hi : i < n) (hx : C.take (n * 4) = xs) (hl : xs.length = n * 4) (hc : (n + 1) * 4 ≤ C.length) (hn : news.length = 4) :
    let C1 := C.take ((i + 1) * 4) ++ xs.drop (i * 4) ++ C.drop ((i + 1) * 4 + (xs.drop (i * 4)).length)
    C1.length = C.length ∧ (C1.take (i * 4) ++ news ++ C1.drop (i * 4 + news.length)).length = C.length ∧ (C1.take (i * 4) ++ news ++ C1.drop (i * 4 + news.length)).take ((n + 1) * 4) = putIn xs news (i * 4) := by
  intro C1
  have e1 : C1.length = C.length := by simp only [C1, List.length_append, List.length_take, List.length_drop, hl]; omega
  have e2 : C1.take (i * 4) = xs.take (i * 4) := by
    simp only [C1]
    rw [List.append_assoc, List.take_append_of_le_length (by simp; omega), List.take_take, Nat.min_eq_left (by omega), ← hx, List.take_take, Nat.min_eq_left (by omega)]
  have e3 : C1.drop (i * 4 + news.length) = xs.drop (i * 4) ++ C.drop ((i + 1) * 4 + (xs.drop (i * 4)).length) := by
    have hlen : (C.take ((i + 1) * 4)).length = i * 4 + news.length := by simp; omega
    simp only [C1]
    rw [List.append_assoc, ← hlen, List.drop_left]
  refine ⟨e1, ?_, ?_⟩
  · simp only [List.length_append, List.length_take, List.length_drop, e1]; omega
  · rw [e2, e3, ← List.append_assoc]
    unfold putIn
    have hlen : (xs.take (i * 4) ++ news ++ xs.drop (i * 4)).length = (n + 1) * 4 := by simp only [List.length_append, List.length_take, List.length_drop, hl, hn]; omega
    rw [← hlen, List.take_left]

/-- An append: as the guide's law says, and where the row then lies. -/
theorem append_own2 (P : Program) (w : World) (t ty e : TypeId) (i : TypeInfo) (z : Value) (size bytes : Nat) (ht : P.underlying t = some (.slice e)) (hi : P.info? e = some i) (hz : i.zero = some z)
    (hsize : i.size = size) (hby : i.bytes = bytes) (hzs : z.cells.size = size) (hsz : 0 < size)
    (v : Value) (n : Nat) (xs : List Value) (hown : w.ownsRow 0 e size v n xs)
    (a : Addr) (m c : Nat) (news : List Value) (hm0 : 0 < m) (hl : news.length = m * size) (hnews : ∀ j u, news[j]? = some u → w.cell? (a.add j) = some u) (h1 : ∀ u ∈ news, u.oneCell' = true)
    (h63 : n + m ≤ maxLen) (hbytes : (n + m) * bytes ≤ 140737488355328) :
    ∃ v' w', (Builtin.append_ #[t, t] ty #[v, .slice (some a) m c]).run P w = .ok v' w' ∧ w'.ownsRow 0 e size v' (n + m) (xs ++ news) ∧ w.grownBy w' v.ownBlock ∧ ((∃ g, v.ownBlock = some g ∧ v'.ownBlock = some g) ∨ v'.ownBlock = some w.heap.size) := by
  obtain ⟨v', w', hr, h2, h3, _⟩ := run_append_own (P := P) w 0 t ty e i z size bytes ht hi hz hsize hby hzs hsz v n xs hown a m c news hl hnews h1 h63 hbytes (Nat.zero_le _)
  refine ⟨v', w', hr, h2, h3, ?_⟩
  have hsmall : n + m ≤ 9223372036854775807 := by simp only [maxLen] at h63; omega
  subst hsize
  subst hby
  rcases hown.2 with ⟨rfl, rfl⟩ | ⟨g, cap, cur, rfl, hbg, hg, hnc, hcm, hcs, htake⟩
  · have hr2 := run_append_nil (P := P) w t ty e i z ht hi hz a m c news hl hnews hm0 (by omega) (by have hb := hbytes; simp only [Nat.zero_add] at hb; omega)
    rw [hr2] at hr
    injection hr with e1 e2
    subst e1
    exact .inr rfl
  · by_cases hroom : n + m ≤ cap
    · have hfit : n * i.size + news.length ≤ cur.size := by rw [hl, hcs, ← Nat.add_mul]; exact Nat.mul_le_mul_right _ hroom
      have hr2 := run_append_room (P := P) w t ty e i ht hi g n cap cur hg a m c news hl hnews h1 hroom hfit
      rw [hr2] at hr
      injection hr with e1 e2
      subst e1
      exact .inl ⟨g, rfl, rfl⟩
    · have holds : ∀ j u, xs[j]? = some u → w.cell? ((⟨g, 0, none⟩ : Addr).add j) = some u := hown.cells (g := g) rfl
      have hr2 := run_append_grow (P := P) w t ty e i z ht hi hz ⟨g, 0, none⟩ n cap xs hown.1 holds a m c news hl hnews (by omega) (by omega) (growslice_fits (by omega) hbytes)
      rw [hr2] at hr
      injection hr with e1 e2
      subst e1
      exact .inr rfl

theorem Keeps.of_grown {w w' : World} {row : Option Nat} (h : w.grownBy w' row) : Keeps (fun k => row = some k) w w' := ⟨h.os, h.tape, h.output, h.size, fun k hk hn => h.block k hk (fun e => hn e.symm)⟩

theorem grow_list {X xs news : List Value} {i n : Nat} (hi : i < n) (hl : xs.length = n * 4) (hX : (n + 1) * 4 ≤ X.length) (hx : X.take (i * 4) = xs.take (i * 4)) (hn : news.length = 4) :
    let X1 := X.take (i * 4) ++ news ++ X.drop (i * 4 + news.length)
    X1.length = X.length ∧ (X1.take ((i + 1) * 4) ++ xs.drop (i * 4) ++ X1.drop ((i + 1) * 4 + (xs.drop (i * 4)).length)).length = X.length ∧ (X1.take ((i + 1) * 4) ++ xs.drop (i * 4) ++ X1.drop ((i + 1) * 4 + (xs.drop (i * 4)).length)).take ((n + 1) * 4) = putIn xs news (i * 4) := by
  intro X1
  have e1 : X1.length = X.length := by simp only [X1, List.length_append, List.length_take, List.length_drop]; omega
  have e2 : X1.take ((i + 1) * 4) = xs.take (i * 4) ++ news := by
    have hlen : (X.take (i * 4) ++ news).length = (i + 1) * 4 := by simp only [List.length_append, List.length_take]; omega
    simp only [X1]
    rw [← hlen, List.take_left, hx]
  refine ⟨e1, ?_, ?_⟩
  · simp only [List.length_append, List.length_take, List.length_drop, e1, hl]; omega
  · rw [e2]
    unfold putIn
    have hlen : (xs.take (i * 4) ++ news ++ xs.drop (i * 4)).length = (n + 1) * 4 := by simp only [List.length_append, List.length_take, List.length_drop, hl, hn]; omega
    rw [← hlen, List.take_left]

theorem rows_one (Q : List RowP) : ∀ u ∈ Q.flatMap rgC, u.oneCell' = true := by
  intro u hu
  obtain ⟨q, _, hq⟩ := List.mem_flatMap.1 hu
  simp only [rgC, List.mem_cons, List.not_mem_nil, or_false] at hq
  rcases hq with rfl | rfl | rfl | rfl <;> rfl

end Go.Proofs.YtmbacegbcccdjaaDoor

namespace Go.Proofs.YtmbacegbcccdjaaDoor
open Go.RowKit Spm
set_option linter.unusedVariables false
set_option linter.unusedSimpArgs false

theorem putIn_rows (Q : List RowP) (q : RowP) (i : Nat) : putIn (Q.flatMap rgC) (rgC q) (i * 4) = (Q.take i ++ q :: Q.drop i).flatMap rgC := by
  unfold putIn
  rw [rows_take, rows_drop, List.flatMap_append, List.flatMap_cons, List.append_assoc]

theorem ins_perm (Q : List RowP) (q : RowP) (i : Nat) : (Q.take i ++ q :: Q.drop i).Perm (q :: Q) := by
  have := List.perm_middle (a := q) (l₁ := Q.take i) (l₂ := Q.drop i)
  rwa [List.take_append_drop] at this

theorem foot_ins {a B : Nat} {v v' : Value} {Q : List RowP} {q : RowP} {i : Nat} (hnd : (foot a v Q).Nodup) (hlt : ∀ k ∈ foot a v Q, k < B)
    (hv : (∃ g, v.ownBlock = some g ∧ v'.ownBlock = some g) ∨ ∃ g, v'.ownBlock = some g ∧ B < g) (hq : q.2.1 = B) : (foot a v' (Q.take i ++ q :: Q.drop i)).Nodup ∧ ∀ k ∈ foot a v' (Q.take i ++ q :: Q.drop i), k ∈ foot a v Q ∨ B ≤ k := by
  have hp : ((Q.take i ++ q :: Q.drop i).map (fun q : RowP => q.2.1)).Perm (B :: Q.map (fun q : RowP => q.2.1)) := by rw [← hq]; exact (ins_perm Q q i).map _
  have hQ : ∀ x ∈ Q.map (fun q : RowP => q.2.1), x ∈ foot a v Q := fun x hx => List.mem_cons_of_mem _ (List.mem_append_right _ hx)
  have hal : a < B := hlt a foot_a
  obtain ⟨g, hg', hgc⟩ : ∃ g, v'.ownBlock = some g ∧ (v.ownBlock = some g ∨ B < g) := by
    rcases hv with ⟨g, h1, h2⟩ | ⟨g, h1, h2⟩
    · exact ⟨g, h2, .inl h1⟩
    · exact ⟨g, h1, .inr h2⟩
  have hnd' := hnd
  unfold foot at hnd
  obtain ⟨n1, n2⟩ := List.nodup_cons.1 hnd
  obtain ⟨n3, n4, n5⟩ := List.nodup_append.1 n2
  constructor
  · unfold foot
    rw [hg', List.nodup_cons]
    refine ⟨?_, ?_⟩
    · intro h
      rcases List.mem_append.1 h with h | h
      · have hag : a = g := by simpa using h
        rcases hgc with h1 | h1
        · exact nodup_av hnd' h1 hag
        · omega
      · rcases List.mem_cons.1 (hp.mem_iff.1 h) with h | h
        · omega
        · exact n1 (List.mem_append_right _ h)
    · rw [List.nodup_append]
      refine ⟨by simp, hp.nodup_iff.2 (List.nodup_cons.2 ⟨fun h => ?_, n4⟩), fun x hx y hy e => ?_⟩
      · have := hlt _ (hQ _ h); omega
      · have hxg : x = g := by simpa using hx
        subst hxg
        subst e
        rcases List.mem_cons.1 (hp.mem_iff.1 hy) with h | h
        · rcases hgc with h1 | h1
          · have := hlt _ (foot_v h1); omega
          · omega
        · rcases hgc with h1 | h1
          · exact n5 x (by rw [h1]; simp) x h rfl
          · have := hlt _ (hQ _ h); omega
  · intro k hk
    unfold foot at hk
    rcases List.mem_cons.1 hk with rfl | hk
    · exact .inl foot_a
    · rcases List.mem_append.1 hk with h | h
      · rw [hg'] at h
        have hkg : k = g := by simpa using h
        subst hkg
        rcases hgc with h1 | h1
        · exact .inl (foot_v h1)
        · exact .inr (by omega)
      · rcases List.mem_cons.1 (hp.mem_iff.1 h) with h | h
        · exact .inr (by omega)
        · exact .inl (hQ _ h)

end Go.Proofs.YtmbacegbcccdjaaDoor

namespace Go.Proofs.YtmbacegbcccdjaaDoor
open Go.RowKit Spm
set_option linter.unusedVariables false
set_option linter.unusedSimpArgs false

theorem right_ne {size p : Int} (h : right size p ≠ 0) : right size p = 1 := by
  unfold right at h ⊢
  split
  · rfl
  · rename_i hc; rw [if_neg hc] at h; exact absurd rfl h
theorem right_eq {size p : Int} (h : right size p = 0) : 1 ≤ size ∧ size ≤ 1048576 ∧ 0 ≤ p ∧ p ≤ 7 := by
  unfold right at h
  split at h
  · cases h
  · omega
def atBad (at_ size : Int) : Prop := at_ < 4096 ∨ at_ % 64 ≠ 0 ∨ 4294967296 - up size < at_

theorem mapAtS_r {L : List Rg} {at_ size p : Int} (h : right size p ≠ 0) : mapAtS L at_ size p = (L, 1) := by unfold mapAtS; rw [if_pos h]
theorem mapAtS_b {L : List Rg} {at_ size p : Int} (h : right size p = 0) (hb : atBad at_ size) : mapAtS L at_ size p = (L, 1) := by unfold atBad at hb; unfold mapAtS; rw [if_neg (by simp [h]), if_pos hb]
theorem mapAtS_m {L : List Rg} {at_ size p : Int} (h : right size p = 0) (hb : ¬ atBad at_ size) (hm : meets L at_ (up size) = true) : mapAtS L at_ size p = (L, 51) := by unfold atBad at hb; unfold mapAtS; rw [if_neg (by simp [h]), if_neg hb, if_pos hm]
theorem mapAtS_ok {L : List Rg} {at_ size p : Int} (h : right size p = 0) (hb : ¬ atBad at_ size) (hm : meets L at_ (up size) = false) : mapAtS L at_ size p = (L.take (insP at_ L) ++ ⟨at_, up size, p, zeros (up size)⟩ :: L.drop (insP at_ L), 0) := by
  unfold atBad at hb; unfold mapAtS; rw [if_neg (by simp [h]), if_neg hb, if_neg (by simp [hm])]

theorem meets_no_prev {L : List Rg} {at_ n : Int} {j : Nat} {x : Rg} (hk : insP at_ L = j + 1) (hx : L[j]? = some x) (h : at_ < x.at_ + x.sz) : meets L at_ n = true := by
  unfold meets
  rw [hk, Nat.add_sub_cancel, List.getD_eq_getElem?_getD, hx]
  simp [h]
def prevOk (L : List Rg) (at_ : Int) (k : Nat) : Prop := ∀ j x, k = j + 1 → L[j]? = some x → x.at_ + x.sz ≤ at_
theorem meets_next {L : List Rg} {at_ n : Int} {k : Nat} {x : Rg} (hk : insP at_ L = k) (hx : L[k]? = some x) (h : x.at_ < at_ + n) : meets L at_ n = true := by
  have hl := (List.getElem?_eq_some_iff.1 hx).1
  unfold meets
  rw [hk, List.getD_eq_getElem?_getD (l := L) (i := k), hx]
  simp [h, hl]
theorem meets_none {L : List Rg} {at_ n : Int} {k : Nat} (hk : insP at_ L = k) (hp : prevOk L at_ k) (hx : ∀ x, L[k]? = some x → at_ + n ≤ x.at_) : meets L at_ n = false := by
  unfold meets
  rw [hk]
  have h1 : (decide (0 < k) && decide (at_ < (L.getD (k - 1) default).at_ + (L.getD (k - 1) default).sz)) = false := by
    cases k with
    | zero => simp
    | succ j =>
      rw [Nat.add_sub_cancel, List.getD_eq_getElem?_getD]
      cases hj : L[j]? with
      | none =>
        have h1 := insP_le at_ L
        have h2 := List.getElem?_eq_none_iff.1 hj
        omega
      | some x => have := hp j x rfl hj; simp; omega
  have h2 : (decide (k < L.length) && decide ((L.getD k default).at_ < at_ + n)) = false := by
    rw [List.getD_eq_getElem?_getD]
    cases hj : L[k]? with
    | none => have := List.getElem?_eq_none_iff.1 hj; simp; omega
    | some x => have := hx x hj; simp; omega
  rw [h1, h2]; rfl

theorem owns_shape {w : World} {base : Nat} {e : TypeId} {size n : Nat} {v : Value} {xs : List Value} (h : w.ownsRow base e size v n xs) : ∃ A c, v = .slice A n c := by
  rcases h.2 with ⟨h1, h2⟩ | ⟨g, cap, cur, h1, _⟩
  · exact ⟨none, 0, by rw [h1, h2]⟩
  · exact ⟨_, _, h1⟩

end Go.Proofs.YtmbacegbcccdjaaDoor
