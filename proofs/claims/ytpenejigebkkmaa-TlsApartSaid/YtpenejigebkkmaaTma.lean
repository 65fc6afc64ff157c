/-
  Maps whose keys are integers, whatever their elements: a map as a thing; what a look-up, a store, a delete, a range and its steps do.
  Conditions: none. (My own text.)
-/
import Derived.Test.YtpenejigebkkmaaRgd
import Derived.MapKept
import Derived.Carry
import Derived.Laws.IdiomRangeMap
namespace Go.Proofs.Ytpenejigebkkmaa
open Go.RowKit
set_option linter.unusedVariables false
set_option linter.unusedSimpArgs false

/-- An entry: key, value, stamp. -/
abbrev Ent := Int × Value × Nat
def entM (e : Ent) : MapEntry := { key := .int .i64 e.1, val := e.2.1, born := e.2.2 }
def mget : List Ent → Int → Option Value
  | [], _ => none
  | e :: l, k => if k = e.1 then some e.2.1 else mget l k
def mpos : List Ent → Int → Nat → Option (Nat × Value)
  | [], _, _ => none
  | e :: l, k, i => if k = e.1 then some (i, e.2.1) else mpos l k (i + 1)
theorem mpos_get : ∀ (l : List Ent) (k : Int) (i : Nat), (mpos l k i).map (·.2) = mget l k
  | [], _, _ => rfl
  | e :: l, k, i => by
    unfold mpos mget
    by_cases h : k = e.1
    · rw [if_pos h, if_pos h]; rfl
    · rw [if_neg h, if_neg h]; exact mpos_get l k (i + 1)
theorem mpos_some : ∀ (l : List Ent) (k : Int) (i j : Nat) (v : Value), mpos l k i = some (j, v) → ∃ e, i ≤ j ∧ l[j - i]? = some e ∧ e.1 = k ∧ e.2.1 = v ∧ ∀ m, m < j - i → ∀ e', l[m]? = some e' → e'.1 ≠ k
  | [], _, _, _, _, h => by cases h
  | e :: l, k, i, j, v, h => by
    unfold mpos at h
    by_cases hk : k = e.1
    · rw [if_pos hk] at h
      simp only [Option.some.injEq, Prod.mk.injEq] at h
      obtain ⟨rfl, rfl⟩ := h
      exact ⟨e, Nat.le_refl _, by simp, hk.symm, rfl, fun m hm => by omega⟩
    · rw [if_neg hk] at h
      obtain ⟨e1, h1, h2, h3, h4, h5⟩ := mpos_some l k (i + 1) j v h
      refine ⟨e1, by omega, ?_, h3, h4, fun m hm e' he => ?_⟩
      · rw [show j - i = (j - (i + 1)) + 1 by omega, List.getElem?_cons_succ]; exact h2
      · match m, he with
        | 0, he => obtain rfl : e = e' := by simpa using he
                   exact fun e => hk e.symm
        | m + 1, he => exact h5 m (by omega) e' (by simpa using he)
/-- The list behind a store, and behind a delete. -/
def mset : List Ent → Int → Value → Nat → List Ent
  | [], k, v, c => [(k, v, c)]
  | e :: l, k, v, c => if k = e.1 then (k, v, e.2.2) :: l else e :: mset l k v c
def mdel : List Ent → Int → List Ent
  | [], _ => []
  | e :: l, k => if k = e.1 then l else e :: mdel l k
theorem mget_set : ∀ (l : List Ent) (k : Int) (v : Value) (c : Nat) (x : Int), mget (mset l k v c) x = if x = k then some v else mget l x
  | [], k, v, c, x => by simp [mset, mget]
  | e :: l, k, v, c, x => by
    have ih := mget_set l k v c x
    unfold mset
    by_cases h : k = e.1
    · rw [if_pos h]
      conv => lhs; unfold mget
      conv => rhs; unfold mget
      by_cases hx : x = k
      · rw [if_pos hx, if_pos hx]
      · rw [if_neg hx, if_neg hx, if_neg (by rw [← h]; exact hx)]
    · rw [if_neg h]
      conv => lhs; unfold mget
      conv => rhs; unfold mget
      by_cases hx : x = e.1
      · rw [if_pos hx, if_pos hx, if_neg (by rw [hx]; exact fun e => h e.symm)]
      · rw [if_neg hx, if_neg hx, ih]
theorem mget_mem : ∀ {l : List Ent} {k : Int} {v : Value}, mget l k = some v → ∃ b, (k, v, b) ∈ l
  | [], k, v, h => by cases h
  | e :: l, k, v, h => by
    unfold mget at h
    by_cases hk : k = e.1
    · rw [if_pos hk] at h
      obtain rfl := Option.some.inj h
      exact ⟨e.2.2, by rw [hk]; exact List.mem_cons_self ..⟩
    · rw [if_neg hk] at h
      obtain ⟨b, hb⟩ := mget_mem h
      exact ⟨b, List.mem_cons_of_mem _ hb⟩
/-- Keys once, stamps once and in the past. -/
structure Good (l : List Ent) (c : Nat) : Prop where
  keys : (l.map (·.1)).Nodup
  born : (l.map (·.2.2)).Nodup
  past : ∀ e ∈ l, e.2.2 < c
theorem Good.nil : Good [] 0 := ⟨by simp, by simp, fun e h => by simp at h⟩
theorem mem_get {l : List Ent} (h : (l.map (·.1)).Nodup) {e : Ent} (he : e ∈ l) : mget l e.1 = some e.2.1 := by
  induction l with
  | nil => simp at he
  | cons x l ih =>
    rw [List.map_cons, List.nodup_cons] at h
    unfold mget
    rcases List.mem_cons.1 he with rfl | h1
    · rw [if_pos rfl]
    · rw [if_neg (fun e1 => h.1 (by rw [← e1]; exact List.mem_map_of_mem h1))]
      exact ih h.2 h1
theorem mget_del : ∀ {l : List Ent} (h : (l.map (·.1)).Nodup) (k x : Int), mget (mdel l k) x = if x = k then none else mget l x
  | [], _, k, x => by simp [mdel, mget]
  | e :: l, h, k, x => by
    rw [List.map_cons, List.nodup_cons] at h
    have ih := mget_del h.2 k x
    unfold mdel
    by_cases hk : k = e.1
    · rw [if_pos hk]
      by_cases hx : x = k
      · rw [if_pos hx]
        cases hm : mget l x with
        | none => rfl
        | some v =>
          obtain ⟨b, hb⟩ := mget_mem hm
          exact absurd (List.mem_map_of_mem (f := (·.1)) hb) (by rw [show (x, v, b).1 = e.1 from hx.trans hk]; exact h.1)
      · rw [if_neg hx]
        conv => rhs; unfold mget
        rw [if_neg (by rw [← hk]; exact hx)]
    · rw [if_neg hk]
      conv => lhs; unfold mget
      conv => rhs; unfold mget
      by_cases hx : x = e.1
      · rw [if_pos hx, if_pos hx, if_neg (by rw [hx]; exact fun e => hk e.symm)]
      · rw [if_neg hx, if_neg hx, ih]
theorem mset_mem : ∀ {l : List Ent} {k : Int} {v : Value} {c : Nat} {e : Ent}, e ∈ mset l k v c → e = (k, v, c) ∨ (∃ b, e = (k, v, b) ∧ ∃ u, (k, u, b) ∈ l) ∨ e ∈ l
  | [], k, v, c, e, h => .inl (by simpa [mset] using h)
  | x :: l, k, v, c, e, h => by
    unfold mset at h
    by_cases hk : k = x.1
    · rw [if_pos hk] at h
      rcases List.mem_cons.1 h with rfl | h1
      · exact .inr (.inl ⟨x.2.2, rfl, x.2.1, by rw [hk]; exact List.mem_cons_self ..⟩)
      · exact .inr (.inr (List.mem_cons_of_mem _ h1))
    · rw [if_neg hk] at h
      rcases List.mem_cons.1 h with rfl | h1
      · exact .inr (.inr (List.mem_cons_self ..))
      · rcases mset_mem h1 with h2 | ⟨b, h2, u, h3⟩ | h2
        · exact .inl h2
        · exact .inr (.inl ⟨b, h2, u, List.mem_cons_of_mem _ h3⟩)
        · exact .inr (.inr (List.mem_cons_of_mem _ h2))
theorem mset_key {l : List Ent} {k : Int} {v : Value} {c : Nat} {x : Int} (h : x ∈ (mset l k v c).map (·.1)) : x = k ∨ x ∈ l.map (·.1) := by
  obtain ⟨e, he, rfl⟩ := List.mem_map.1 h
  rcases mset_mem he with rfl | ⟨b, rfl, u, h3⟩ | h2
  · exact .inl rfl
  · exact .inl rfl
  · exact .inr (List.mem_map_of_mem h2)
theorem mset_born {l : List Ent} {k : Int} {v : Value} {c : Nat} {x : Nat} (h : x ∈ (mset l k v c).map (·.2.2)) : x = c ∨ x ∈ l.map (·.2.2) := by
  obtain ⟨e, he, rfl⟩ := List.mem_map.1 h
  rcases mset_mem he with rfl | ⟨b, rfl, u, h3⟩ | h2
  · exact .inl rfl
  · exact .inr (List.mem_map_of_mem (f := (·.2.2)) h3)
  · exact .inr (List.mem_map_of_mem h2)
theorem mset_keys : ∀ {l : List Ent} {k : Int} {v : Value} {c : Nat}, (l.map (·.1)).Nodup → ((mset l k v c).map (·.1)).Nodup
  | [], k, v, c, _ => by simp [mset]
  | x :: l, k, v, c, h => by
    rw [List.map_cons, List.nodup_cons] at h
    unfold mset
    by_cases hk : k = x.1
    · rw [if_pos hk, List.map_cons, List.nodup_cons]
      exact ⟨by rw [hk]; exact h.1, h.2⟩
    · rw [if_neg hk, List.map_cons, List.nodup_cons]
      refine ⟨fun hm => ?_, mset_keys h.2⟩
      rcases mset_key hm with e | e
      · exact hk e.symm
      · exact h.1 e
theorem mset_borns : ∀ {l : List Ent} {k : Int} {v : Value} {c : Nat}, (l.map (·.2.2)).Nodup → (∀ e ∈ l, e.2.2 < c) → ((mset l k v c).map (·.2.2)).Nodup
  | [], k, v, c, _, _ => by simp [mset]
  | x :: l, k, v, c, h, hc => by
    rw [List.map_cons, List.nodup_cons] at h
    unfold mset
    by_cases hk : k = x.1
    · rw [if_pos hk, List.map_cons, List.nodup_cons]
      exact h
    · rw [if_neg hk, List.map_cons, List.nodup_cons]
      refine ⟨fun hm => ?_, mset_borns h.2 (fun e he => hc e (List.mem_cons_of_mem _ he))⟩
      rcases mset_born hm with e | e
      · have := hc x (List.mem_cons_self ..); omega
      · exact h.1 e
/-- What the clock is behind a store. -/
def mclk (l : List Ent) (k : Int) (c : Nat) : Nat := if (mget l k).isSome = true then c else c + 1
theorem Good.set {l : List Ent} {c : Nat} (h : Good l c) (k : Int) (v : Value) : Good (mset l k v c) (mclk l k c) := by
  refine ⟨mset_keys h.keys, mset_borns h.born h.past, fun e he => ?_⟩
  have hle : c ≤ mclk l k c := by unfold mclk; split <;> omega
  have key : ∀ {l : List Ent} {e : Ent}, e ∈ mset l k v c → e.2.2 = c → (∀ x ∈ l, x.2.2 < c) → mget l k = none := by
    intro l
    induction l with
    | nil => intro e _ _ _; rfl
    | cons x l ih =>
      intro e he hec hp
      unfold mset at he
      unfold mget
      by_cases hk : k = x.1
      · rw [if_pos hk] at he
        rcases List.mem_cons.1 he with rfl | h1
        · have h2 := hp x (List.mem_cons_self ..); simp only at hec; omega
        · have h2 := hp e (List.mem_cons_of_mem _ h1); omega
      · rw [if_neg hk] at he ⊢
        rcases List.mem_cons.1 he with rfl | h1
        · have h2 := hp e (List.mem_cons_self ..); omega
        · exact ih h1 hec (fun y hy => hp y (List.mem_cons_of_mem _ hy))
  rcases mset_mem he with rfl | ⟨b, rfl, u, h3⟩ | h2
  · have := key he rfl h.past
    unfold mclk
    rw [this]
    simp
  · have := h.past _ h3
    simp only at this ⊢
    omega
  · have := h.past _ h2
    omega
theorem mdel_sub : ∀ (l : List Ent) (k : Int), (mdel l k).Sublist l
  | [], _ => List.Sublist.slnil
  | x :: l, k => by
    unfold mdel
    by_cases hk : k = x.1
    · rw [if_pos hk]; exact List.sublist_cons_self ..
    · rw [if_neg hk]; exact (mdel_sub l k).cons_cons _
theorem Good.del {l : List Ent} {c : Nat} (h : Good l c) (k : Int) : Good (mdel l k) c :=
  ⟨h.keys.sublist ((mdel_sub l k).map _), h.born.sublist ((mdel_sub l k).map _), fun e he => h.past e ((mdel_sub l k).subset he)⟩

/-! ### The operations -/
section
variable {P : Program}
theorem sameNow_int (q : IntKind) (k x : Int) : Instr.sameNow (.int q) (.int .i64 k) (.int .i64 x) = some (k == x) := by
  simp [Instr.sameNow]
theorem findNow_int (q : IntKind) (k : Int) : ∀ (l : List Ent) (i : Nat), Instr.findNow (.int q) (.int .i64 k) (l.map entM) i = some (mpos l k i)
  | [], i => rfl
  | e :: l, i => by
    rw [List.map_cons]
    unfold Instr.findNow
    show (match Instr.sameNow (.int q) (.int .i64 k) (.int .i64 e.1) with
      | some true => some (some (i, (entM e).val))
      | some false => Instr.findNow (.int q) (.int .i64 k) (l.map entM) (i + 1)
      | none => none) = _
    rw [sameNow_int]
    unfold mpos
    by_cases h : k = e.1
    · have : (k == e.1) = true := beq_iff_eq.2 h
      rw [this, if_pos h]; rfl
    · have : (k == e.1) = false := beq_eq_false_iff_ne.2 h
      rw [this, if_neg h]
      exact findNow_int q k l (i + 1)
theorem run_findKey {K : TypeId} {q : IntKind} (hK : P.underlying K = some (.int q)) (k : Int) (l : List Ent) (w : World) : (Instr.findKey K (.int .i64 k) (l.map entM)).run P w = .ok (mpos l k 0) w := by
  unfold Instr.findKey
  simp only [Sem.run_bind, run_underlying hK, Result.andThen_ok, findNow_int]
  rfl
theorem run_checkKeyI {K : TypeId} {q : IntKind} (hK : P.underlying K = some (.int q)) (k : Int) (b : Bool) (w : World) : (Instr.checkKey b 10000 K (.int .i64 k)).run P w = .ok () w := by
  rw [show (10000 : Nat) = 9999 + 1 from rfl]
  unfold Instr.checkKey
  simp only [Sem.run_bind, run_underlying hK, Result.andThen_ok]
  rfl
theorem run_mlook {T K E : TypeId} {q : IntKind} (hT : P.underlying T = some (.map K E)) (hK : P.underlying K = some (.int q)) {w : World} {g : Nat} {l : List Ent} {c : Nat} (hg : w.heap[g]? = some (.map (l.map entM).toArray c)) {z : Value} (hz : ∀ w : World, (zeroValue E).run P w = .ok z w) (k : Int) (ok : Bool) :
    (Instr.lookup T (.map (some g)) (.int .i64 k) ok).run P w = .ok (if ok then .tuple #[(mget l k).getD z, .bool (mget l k).isSome] else (mget l k).getD z) w := by
  unfold Instr.lookup
  simp only [Sem.run_bind, run_underlying hT, Result.andThen_ok, MapKept.run_getObj_map hg, Sem.run_pure, run_checkKeyI hK, List.toList_toArray, run_findKey hK]
  rw [← mpos_get l k 0]
  cases h : mpos l k 0 with
  | none => cases ok <;> simp [Sem.run_bind, hz]
  | some p => cases ok <;> simp [Sem.run_bind]
def World.putO (w : World) (g : Nat) (o : Obj) : World := { w with heap := w.heap.setIfInBounds g o }
theorem modify_set : ∀ (l : List Ent) (k : Int) (v : Value) (c j : Nat) (u : Value) (i : Nat), mpos l k i = some (j, u) → (mset l k v c).map entM = ((l.map entM).modify (j - i) fun e => { e with key := .int .i64 k, val := v })
  | [], k, v, c, j, u, i, h => by cases h
  | e :: l, k, v, c, j, u, i, h => by
    obtain ⟨e1, h1, h2, h3, h4, h5⟩ := mpos_some (e :: l) k i j u h
    unfold mpos at h
    unfold mset
    by_cases hk : k = e.1
    · rw [if_pos hk] at h ⊢
      simp only [Option.some.injEq, Prod.mk.injEq] at h
      obtain ⟨rfl, rfl⟩ := h
      rw [Nat.sub_self, List.map_cons, List.map_cons, List.modify_zero_cons]
      rfl
    · rw [if_neg hk] at h ⊢
      obtain ⟨_, h6, _⟩ := mpos_some l k (i + 1) j u h
      have ih := modify_set l k v c j u (i + 1) h
      rw [List.map_cons, ih, List.map_cons, show j - i = (j - (i + 1)) + 1 by omega, List.modify_succ_cons]
theorem push_set : ∀ (l : List Ent) (k : Int) (v : Value) (c i : Nat), mpos l k i = none → mset l k v c = l ++ [(k, v, c)]
  | [], k, v, c, i, h => rfl
  | e :: l, k, v, c, i, h => by
    unfold mpos at h
    unfold mset
    by_cases hk : k = e.1
    · rw [if_pos hk] at h; cases h
    · rw [if_neg hk] at h ⊢
      rw [push_set l k v c (i + 1) h]; rfl
theorem erase_del : ∀ (l : List Ent) (k : Int) (j : Nat) (u : Value) (i : Nat), mpos l k i = some (j, u) → mdel l k = l.eraseIdx (j - i)
  | [], k, j, u, i, h => by cases h
  | e :: l, k, j, u, i, h => by
    unfold mpos at h
    unfold mdel
    by_cases hk : k = e.1
    · rw [if_pos hk] at h ⊢
      simp only [Option.some.injEq, Prod.mk.injEq] at h
      obtain ⟨rfl, rfl⟩ := h
      rw [Nat.sub_self]; rfl
    · rw [if_neg hk] at h ⊢
      obtain ⟨_, h6, _⟩ := mpos_some l k (i + 1) j u h
      rw [erase_del l k j u (i + 1) h, show j - i = (j - (i + 1)) + 1 by omega]; rfl
theorem none_del : ∀ (l : List Ent) (k : Int) (i : Nat), mpos l k i = none → mdel l k = l
  | [], k, i, h => rfl
  | e :: l, k, i, h => by
    unfold mpos at h
    unfold mdel
    by_cases hk : k = e.1
    · rw [if_pos hk] at h; cases h
    · rw [if_neg hk] at h ⊢
      rw [none_del l k (i + 1) h]
theorem run_mset {T K E : TypeId} {q : IntKind} (hT : P.underlying T = some (.map K E)) (hK : P.underlying K = some (.int q)) {w : World} {g : Nat} {l : List Ent} {c : Nat} (hg : w.heap[g]? = some (.map (l.map entM).toArray c)) (k : Int) (v : Value) :
    (Instr.mapUpdate T (.map (some g)) (.int .i64 k) v).run P w = .ok () (World.putO w g (.map ((mset l k v c).map entM).toArray (mclk l k c))) := by
  unfold Instr.mapUpdate
  simp only [Sem.run_bind, run_underlying hT, Result.andThen_ok, MapKept.run_getObj_map hg, run_checkKeyI hK, List.toList_toArray, run_findKey hK]
  have hc : mclk l k c = if ((mpos l k 0).map (·.2)).isSome = true then c else c + 1 := by rw [mpos_get]; rfl
  cases h : mpos l k 0 with
  | none =>
    rw [h] at hc
    rw [hc]
    simp only [MapKept.run_setObj_map _ hg]
    rw [push_set l k v c 0 h]
    simp [World.putO, entM]
  | some p =>
    obtain ⟨j, u⟩ := p
    obtain ⟨e1, h1, h2, h3, h4, h5⟩ := mpos_some l k 0 j u h
    rw [Nat.sub_zero] at h2
    rw [h] at hc
    rw [hc]
    have hks : (((l.map entM).toArray[j]?).map (·.key)).getD (.int .i64 k) = .int .i64 k := by
      simp [h2, entM, h3]
    have hsame : Instr.sameBits 10000 (.int .i64 k) (.int .i64 k) = true := by
      rw [show (10000 : Nat) = 9999 + 1 from rfl]
      simp [Instr.sameBits]
    have hstay : (Instr.keyThatStays (.int .i64 k) (.int .i64 k)).run P w = .ok (.int .i64 k) w := by
      unfold Instr.keyThatStays
      rw [hsame]
      rfl
    simp only [hks, Sem.run_bind, hstay, Result.andThen_ok, MapKept.run_setObj_map _ hg]
    have := modify_set l k v c j u 0 h
    rw [Nat.sub_zero] at this
    rw [this]
    simp [World.putO]
theorem map_erase {α β : Type} (f : α → β) : ∀ (l : List α) (j : Nat), (l.map f).eraseIdx j = (l.eraseIdx j).map f
  | [], _ => by simp
  | a :: l, 0 => rfl
  | a :: l, j + 1 => by simp [map_erase f l j]
theorem run_mdel {T K E : TypeId} {q : IntKind} (hT : P.underlying T = some (.map K E)) (hK : P.underlying K = some (.int q)) {w : World} {g : Nat} {l : List Ent} {c : Nat} (hg : w.heap[g]? = some (.map (l.map entM).toArray c)) (k : Int) (X ty : TypeId) :
    (Builtin.delete_ #[T, X] ty #[.map (some g), .int .i64 k]).run P w = .ok (.tuple #[]) (World.putO w g (.map ((mdel l k).map entM).toArray c)) := by
  unfold Builtin.delete_
  simp only [List.getElem?_toArray, List.getElem?_cons_zero, List.getElem?_cons_succ, Sem.run_bind, run_underlying hT, Result.andThen_ok, MapKept.run_getObj_map hg, run_checkKeyI hK, List.toList_toArray, run_findKey hK]
  cases h : mpos l k 0 with
  | none =>
    rw [none_del l k 0 h]
    simp only [Sem.run_bind, MapKept.run_setObj_map _ hg, Result.andThen_ok]
    rfl
  | some p =>
    obtain ⟨j, u⟩ := p
    obtain ⟨e1, h1, h2, h3, h4, h5⟩ := mpos_some l k 0 j u h
    have := erase_del l k j u 0 h
    rw [Nat.sub_zero] at this
    have e2 : ((l.map entM).toArray.eraseIdxIfInBounds j) = ((l.eraseIdx j).map entM).toArray := by
      rw [← map_erase entM l j]
      simp
    rw [this]
    simp only [e2, Sem.run_bind, MapKept.run_setObj_map _ hg, Result.andThen_ok]
    rfl
end

/-! ### A map as a thing -/
def Mp (g : Nat) (l : List Ent) (c : Nat) : Res := fun w F => w.heap[g]? = some (.map (l.map entM).toArray c) ∧ F g
theorem putO_at {w : World} {g : Nat} {o o' : Obj} (h : w.heap[g]? = some o) : (World.putO w g o').heap[g]? = some o' := by
  have := (Array.getElem?_eq_some_iff.1 h).1
  simp [World.putO, this]
theorem putO_other {w : World} {g k : Nat} {o : Obj} (h : k ≠ g) : (World.putO w g o).heap[k]? = w.heap[k]? := by
  simp [World.putO, Ne.symm h]
theorem putO_keeps (w : World) (g : Nat) (o : Obj) : Keeps (fun k => k = g) w (World.putO w g o) := ⟨rfl, rfl, rfl, by simp [World.putO], fun k _ hn => putO_other hn⟩
theorem lt_of_obj {w : World} {g : Nat} {o : Obj} (h : w.heap[g]? = some o) : g < w.heap.size := (Array.getElem?_eq_some_iff.1 h).1
instance fr_mp (g : Nat) (l : List Ent) (c : Nat) : Fr (Mp g l c) := ⟨fun ⟨h, hf⟩ hk => ⟨(hk g hf (lt_of_obj h)).trans h, hf⟩, fun ⟨h, hf⟩ hm => ⟨h, hm g hf (lt_of_obj h)⟩⟩
section
variable {B : Nat} {w wr w' : World} {Y : Res} {g : Nat} {l l' : List Ent} {c c' : Nat}
theorem Has.mp (h : Has B w wr (Star (Mp g l c) Y)) : wr.heap[g]? = some (.map (l.map entM).toArray c) := by
  obtain ⟨F, ⟨F1, F2, h1, _⟩, _⟩ := h.own
  exact h1.1
theorem Has.putmp [Fr Y] (h : Has B w wr (Star (Mp g l c) Y)) (l' : List Ent) (c' : Nat) : Has B w (World.putO wr g (.map (l'.map entM).toArray c')) (Star (Mp g l' c') Y) :=
  h.turn fun F ⟨h1, h2⟩ => ⟨⟨putO_at h1, .inl h2⟩, (putO_keeps wr g _).mono fun k e => by subst e; exact h2⟩
theorem Has.newmp [Fr Y] (h : Has B w wr Y) : Has B w (wr.alloc (.map #[] 0)) (Star (Mp wr.heap.size [] 0) Y) :=
  h.add ((Below.refl _ _).alloc (Nat.le_refl _) _) ⟨by simpa using heap_alloc_new wr (.map #[] 0), Nat.le_refl _⟩
end
end Go.Proofs.Ytpenejigebkkmaa
