/-
  Maps whose keys are integers, whatever their elements: a map as a thing; what a look-up, a store, a delete, a range and its steps do.
  Maps whose keys are integers: the operations, for the walk; ranging over a map that the loop does not write.
  Layer 17: the program's state of threads and modules, in memory: a thing; its parts picked by their blocks' numbers.
  Layer 17: entries by their structures; the walker's laws for look-ups and steps; tls.up, Gen.
  Conditions: none. (My own text.)
-/
import Derived.Test.YtpenejigebkkmaaGreatRgd
import Derived.MapKept
import Derived.Carry
import Derived.Laws.IdiomRangeMap
import Derived.Test.YtpenejigebkkmaaGreatSp5
namespace Go.Proofs.YtpenejigebkkmaaGreat
open Go.RowKit
set_option linter.unusedVariables false
set_option linter.unusedSimpArgs false

/-- An entry: key, value, stamp. -/
abbrev Ent := Int × Value × Nat
def entM (e : Ent) : MapEntry := { key := .int .i64 e.1, val := e.2.1, born := e.2.2 }
def mget : List Ent → Int → Option Value
  | [], _ => none
  | e :: l, k => if k = e.1 then some e.2.1 else mget l k
def mpos : List Ent → Int → Nat → Option (Nat × Value)
  | [], _, _ => none
  | e :: l, k, i => if k = e.1 then some (i, e.2.1) else mpos l k (i + 1)
theorem mpos_get : ∀ (l : List Ent) (k : Int) (i : Nat), (mpos l k i).map (·.2) = mget l k
  | [], _, _ => rfl
  | e :: l, k, i => by
    unfold mpos mget
    by_cases h : k = e.1
    · rw [if_pos h, if_pos h]; rfl
    · rw [if_neg h, if_neg h]; exact mpos_get l k (i + 1)
theorem mpos_some : ∀ (l : List Ent) (k : Int) (i j : Nat) (v : Value), mpos l k i = some (j, v) → ∃ e, i ≤ j ∧ l[j - i]? = some e ∧ e.1 = k ∧ e.2.1 = v ∧ ∀ m, m < j - i → ∀ e', l[m]? = some e' → e'.1 ≠ k
  | [], _, _, _, _, h => by cases h
  | e :: l, k, i, j, v, h => by
    unfold mpos at h
    by_cases hk : k = e.1
    · rw [if_pos hk] at h
      simp only [Option.some.injEq, Prod.mk.injEq] at h
      obtain ⟨rfl, rfl⟩ := h
      exact ⟨e, Nat.le_refl _, by simp, hk.symm, rfl, fun m hm => by omega⟩
    · rw [if_neg hk] at h
      obtain ⟨e1, h1, h2, h3, h4, h5⟩ := mpos_some l k (i + 1) j v h
      refine ⟨e1, by omega, ?_, h3, h4, fun m hm e' he => ?_⟩
      · rw [show j - i = (j - (i + 1)) + 1 by omega, List.getElem?_cons_succ]; exact h2
      · match m, he with
        | 0, he => obtain rfl : e = e' := by simpa using he
                   exact fun e => hk e.symm
        | m + 1, he => exact h5 m (by omega) e' (by simpa using he)
/-- The list behind a store, and behind a delete. -/
def mset : List Ent → Int → Value → Nat → List Ent
  | [], k, v, c => [(k, v, c)]
  | e :: l, k, v, c => if k = e.1 then (k, v, e.2.2) :: l else e :: mset l k v c
def mdel : List Ent → Int → List Ent
  | [], _ => []
  | e :: l, k => if k = e.1 then l else e :: mdel l k
theorem mget_set : ∀ (l : List Ent) (k : Int) (v : Value) (c : Nat) (x : Int), mget (mset l k v c) x = if x = k then some v else mget l x
  | [], k, v, c, x => by simp [mset, mget]
  | e :: l, k, v, c, x => by
    have ih := mget_set l k v c x
    unfold mset
    by_cases h : k = e.1
    · rw [if_pos h]
      conv => lhs; unfold mget
      conv => rhs; unfold mget
      by_cases hx : x = k
      · rw [if_pos hx, if_pos hx]
      · rw [if_neg hx, if_neg hx, if_neg (by rw [← h]; exact hx)]
    · rw [if_neg h]
      conv => lhs; unfold mget
      conv => rhs; unfold mget
      by_cases hx : x = e.1
      · rw [if_pos hx, if_pos hx, if_neg (by rw [hx]; exact fun e => h e.symm)]
      · rw [if_neg hx, if_neg hx, ih]
theorem mget_mem : ∀ {l : List Ent} {k : Int} {v : Value}, mget l k = some v → ∃ b, (k, v, b) ∈ l
  | [], k, v, h => by cases h
  | e :: l, k, v, h => by
    unfold mget at h
    by_cases hk : k = e.1
    · rw [if_pos hk] at h
      obtain rfl := Option.some.inj h
      exact ⟨e.2.2, by rw [hk]; exact List.mem_cons_self ..⟩
    · rw [if_neg hk] at h
      obtain ⟨b, hb⟩ := mget_mem h
      exact ⟨b, List.mem_cons_of_mem _ hb⟩
/-- Keys once, stamps once and in the past. -/
structure Good (l : List Ent) (c : Nat) : Prop where
  keys : (l.map (·.1)).Nodup
  born : (l.map (·.2.2)).Nodup
  past : ∀ e ∈ l, e.2.2 < c
theorem Good.nil : Good [] 0 := ⟨by simp, by simp, fun e h => by simp at h⟩
theorem mem_get {l : List Ent} (h : (l.map (·.1)).Nodup) {e : Ent} (he : e ∈ l) : mget l e.1 = some e.2.1 := by
  induction l with
  | nil => simp at he
  | cons x l ih =>
    rw [List.map_cons, List.nodup_cons] at h
    unfold mget
    rcases List.mem_cons.1 he with rfl | h1
    · rw [if_pos rfl]
    · rw [if_neg (fun e1 => h.1 (by rw [← e1]; exact List.mem_map_of_mem h1))]
      exact ih h.2 h1
theorem mget_del : ∀ {l : List Ent} (h : (l.map (·.1)).Nodup) (k x : Int), mget (mdel l k) x = if x = k then none else mget l x
  | [], _, k, x => by simp [mdel, mget]
  | e :: l, h, k, x => by
    rw [List.map_cons, List.nodup_cons] at h
    have ih := mget_del h.2 k x
    unfold mdel
    by_cases hk : k = e.1
    · rw [if_pos hk]
      by_cases hx : x = k
      · rw [if_pos hx]
        cases hm : mget l x with
        | none => rfl
        | some v =>
          obtain ⟨b, hb⟩ := mget_mem hm
          exact absurd (List.mem_map_of_mem (f := (·.1)) hb) (by rw [show (x, v, b).1 = e.1 from hx.trans hk]; exact h.1)
      · rw [if_neg hx]
        conv => rhs; unfold mget
        rw [if_neg (by rw [← hk]; exact hx)]
    · rw [if_neg hk]
      conv => lhs; unfold mget
      conv => rhs; unfold mget
      by_cases hx : x = e.1
      · rw [if_pos hx, if_pos hx, if_neg (by rw [hx]; exact fun e => hk e.symm)]
      · rw [if_neg hx, if_neg hx, ih]
theorem mset_mem : ∀ {l : List Ent} {k : Int} {v : Value} {c : Nat} {e : Ent}, e ∈ mset l k v c → e = (k, v, c) ∨ (∃ b, e = (k, v, b) ∧ ∃ u, (k, u, b) ∈ l) ∨ e ∈ l
  | [], k, v, c, e, h => .inl (by simpa [mset] using h)
  | x :: l, k, v, c, e, h => by
    unfold mset at h
    by_cases hk : k = x.1
    · rw [if_pos hk] at h
      rcases List.mem_cons.1 h with rfl | h1
      · exact .inr (.inl ⟨x.2.2, rfl, x.2.1, by rw [hk]; exact List.mem_cons_self ..⟩)
      · exact .inr (.inr (List.mem_cons_of_mem _ h1))
    · rw [if_neg hk] at h
      rcases List.mem_cons.1 h with rfl | h1
      · exact .inr (.inr (List.mem_cons_self ..))
      · rcases mset_mem h1 with h2 | ⟨b, h2, u, h3⟩ | h2
        · exact .inl h2
        · exact .inr (.inl ⟨b, h2, u, List.mem_cons_of_mem _ h3⟩)
        · exact .inr (.inr (List.mem_cons_of_mem _ h2))
theorem mset_key {l : List Ent} {k : Int} {v : Value} {c : Nat} {x : Int} (h : x ∈ (mset l k v c).map (·.1)) : x = k ∨ x ∈ l.map (·.1) := by
  obtain ⟨e, he, rfl⟩ := List.mem_map.1 h
  rcases mset_mem he with rfl | ⟨b, rfl, u, h3⟩ | h2
  · exact .inl rfl
  · exact .inl rfl
  · exact .inr (List.mem_map_of_mem h2)
theorem mset_born {l : List Ent} {k : Int} {v : Value} {c : Nat} {x : Nat} (h : x ∈ (mset l k v c).map (·.2.2)) : x = c ∨ x ∈ l.map (·.2.2) := by
  obtain ⟨e, he, rfl⟩ := List.mem_map.1 h
  rcases mset_mem he with rfl | ⟨b, rfl, u, h3⟩ | h2
  · exact .inl rfl
  · exact .inr (List.mem_map_of_mem (f := (·.2.2)) h3)
  · exact .inr (List.mem_map_of_mem h2)
theorem mset_keys : ∀ {l : List Ent} {k : Int} {v : Value} {c : Nat}, (l.map (·.1)).Nodup → ((mset l k v c).map (·.1)).Nodup
  | [], k, v, c, _ => by simp [mset]
  | x :: l, k, v, c, h => by
    rw [List.map_cons, List.nodup_cons] at h
    unfold mset
    by_cases hk : k = x.1
    · rw [if_pos hk, List.map_cons, List.nodup_cons]
      exact ⟨by rw [hk]; exact h.1, h.2⟩
    · rw [if_neg hk, List.map_cons, List.nodup_cons]
      refine ⟨fun hm => ?_, mset_keys h.2⟩
      rcases mset_key hm with e | e
      · exact hk e.symm
      · exact h.1 e
theorem mset_borns : ∀ {l : List Ent} {k : Int} {v : Value} {c : Nat}, (l.map (·.2.2)).Nodup → (∀ e ∈ l, e.2.2 < c) → ((mset l k v c).map (·.2.2)).Nodup
  | [], k, v, c, _, _ => by simp [mset]
  | x :: l, k, v, c, h, hc => by
    rw [List.map_cons, List.nodup_cons] at h
    unfold mset
    by_cases hk : k = x.1
    · rw [if_pos hk, List.map_cons, List.nodup_cons]
      exact h
    · rw [if_neg hk, List.map_cons, List.nodup_cons]
      refine ⟨fun hm => ?_, mset_borns h.2 (fun e he => hc e (List.mem_cons_of_mem _ he))⟩
      rcases mset_born hm with e | e
      · have := hc x (List.mem_cons_self ..); omega
      · exact h.1 e
/-- What the clock is behind a store. -/
def mclk (l : List Ent) (k : Int) (c : Nat) : Nat := if (mget l k).isSome = true then c else c + 1
theorem Good.set {l : List Ent} {c : Nat} (h : Good l c) (k : Int) (v : Value) : Good (mset l k v c) (mclk l k c) := by
  refine ⟨mset_keys h.keys, mset_borns h.born h.past, fun e he => ?_⟩
  have hle : c ≤ mclk l k c := by unfold mclk; split <;> omega
  have key : ∀ {l : List Ent} {e : Ent}, e ∈ mset l k v c → e.2.2 = c → (∀ x ∈ l, x.2.2 < c) → mget l k = none := by
    intro l
    induction l with
    | nil => intro e _ _ _; rfl
    | cons x l ih =>
      intro e he hec hp
      unfold mset at he
      unfold mget
      by_cases hk : k = x.1
      · rw [if_pos hk] at he
        rcases List.mem_cons.1 he with rfl | h1
        · have h2 := hp x (List.mem_cons_self ..); simp only at hec; omega
        · have h2 := hp e (List.mem_cons_of_mem _ h1); omega
      · rw [if_neg hk] at he ⊢
        rcases List.mem_cons.1 he with rfl | h1
        · have h2 := hp e (List.mem_cons_self ..); omega
        · exact ih h1 hec (fun y hy => hp y (List.mem_cons_of_mem _ hy))
  rcases mset_mem he with rfl | ⟨b, rfl, u, h3⟩ | h2
  · have := key he rfl h.past
    unfold mclk
    rw [this]
    simp
  · have := h.past _ h3
    simp only at this ⊢
    omega
  · have := h.past _ h2
    omega
theorem mdel_sub : ∀ (l : List Ent) (k : Int), (mdel l k).Sublist l
  | [], _ => List.Sublist.slnil
  | x :: l, k => by
    unfold mdel
    by_cases hk : k = x.1
    · rw [if_pos hk]; exact List.sublist_cons_self ..
    · rw [if_neg hk]; exact (mdel_sub l k).cons_cons _
theorem Good.del {l : List Ent} {c : Nat} (h : Good l c) (k : Int) : Good (mdel l k) c :=
  ⟨h.keys.sublist ((mdel_sub l k).map _), h.born.sublist ((mdel_sub l k).map _), fun e he => h.past e ((mdel_sub l k).subset he)⟩

/-! ### The operations -/
section
variable {P : Program}
theorem sameNow_int (q : IntKind) (k x : Int) : Instr.sameNow (.int q) (.int .i64 k) (.int .i64 x) = some (k == x) := by
  simp [Instr.sameNow]
theorem findNow_int (q : IntKind) (k : Int) : ∀ (l : List Ent) (i : Nat), Instr.findNow (.int q) (.int .i64 k) (l.map entM) i = some (mpos l k i)
  | [], i => rfl
  | e :: l, i => by
    rw [List.map_cons]
    unfold Instr.findNow
    show (match Instr.sameNow (.int q) (.int .i64 k) (.int .i64 e.1) with
      | some true => some (some (i, (entM e).val))
      | some false => Instr.findNow (.int q) (.int .i64 k) (l.map entM) (i + 1)
      | none => none) = _
    rw [sameNow_int]
    unfold mpos
    by_cases h : k = e.1
    · have : (k == e.1) = true := beq_iff_eq.2 h
      rw [this, if_pos h]; rfl
    · have : (k == e.1) = false := beq_eq_false_iff_ne.2 h
      rw [this, if_neg h]
      exact findNow_int q k l (i + 1)
theorem run_findKey {K : TypeId} {q : IntKind} (hK : P.underlying K = some (.int q)) (k : Int) (l : List Ent) (w : World) : (Instr.findKey K (.int .i64 k) (l.map entM)).run P w = .ok (mpos l k 0) w := by
  unfold Instr.findKey
  simp only [Sem.run_bind, run_underlying hK, Result.andThen_ok, findNow_int]
  rfl
theorem run_checkKeyI {K : TypeId} {q : IntKind} (hK : P.underlying K = some (.int q)) (k : Int) (b : Bool) (w : World) : (Instr.checkKey b 10000 K (.int .i64 k)).run P w = .ok () w := by
  rw [show (10000 : Nat) = 9999 + 1 from rfl]
  unfold Instr.checkKey
  simp only [Sem.run_bind, run_underlying hK, Result.andThen_ok]
  rfl
theorem run_mlook {T K E : TypeId} {q : IntKind} (hT : P.underlying T = some (.map K E)) (hK : P.underlying K = some (.int q)) {w : World} {g : Nat} {l : List Ent} {c : Nat} (hg : w.heap[g]? = some (.map (l.map entM).toArray c)) {z : Value} (hz : ∀ w : World, (zeroValue E).run P w = .ok z w) (k : Int) (ok : Bool) :
    (Instr.lookup T (.map (some g)) (.int .i64 k) ok).run P w = .ok (if ok then .tuple #[(mget l k).getD z, .bool (mget l k).isSome] else (mget l k).getD z) w := by
  unfold Instr.lookup
  simp only [Sem.run_bind, run_underlying hT, Result.andThen_ok, MapKept.run_getObj_map hg, Sem.run_pure, run_checkKeyI hK, List.toList_toArray, run_findKey hK]
  rw [← mpos_get l k 0]
  cases h : mpos l k 0 with
  | none => cases ok <;> simp [Sem.run_bind, hz]
  | some p => cases ok <;> simp [Sem.run_bind]
def World.putO (w : World) (g : Nat) (o : Obj) : World := { w with heap := w.heap.setIfInBounds g o }
theorem modify_set : ∀ (l : List Ent) (k : Int) (v : Value) (c j : Nat) (u : Value) (i : Nat), mpos l k i = some (j, u) → (mset l k v c).map entM = ((l.map entM).modify (j - i) fun e => { e with key := .int .i64 k, val := v })
  | [], k, v, c, j, u, i, h => by cases h
  | e :: l, k, v, c, j, u, i, h => by
    obtain ⟨e1, h1, h2, h3, h4, h5⟩ := mpos_some (e :: l) k i j u h
    unfold mpos at h
    unfold mset
    by_cases hk : k = e.1
    · rw [if_pos hk] at h ⊢
      simp only [Option.some.injEq, Prod.mk.injEq] at h
      obtain ⟨rfl, rfl⟩ := h
      rw [Nat.sub_self, List.map_cons, List.map_cons, List.modify_zero_cons]
      rfl
    · rw [if_neg hk] at h ⊢
      obtain ⟨_, h6, _⟩ := mpos_some l k (i + 1) j u h
      have ih := modify_set l k v c j u (i + 1) h
      rw [List.map_cons, ih, List.map_cons, show j - i = (j - (i + 1)) + 1 by omega, List.modify_succ_cons]
theorem push_set : ∀ (l : List Ent) (k : Int) (v : Value) (c i : Nat), mpos l k i = none → mset l k v c = l ++ [(k, v, c)]
  | [], k, v, c, i, h => rfl
  | e :: l, k, v, c, i, h => by
    unfold mpos at h
    unfold mset
    by_cases hk : k = e.1
    · rw [if_pos hk] at h; cases h
    · rw [if_neg hk] at h ⊢
      rw [push_set l k v c (i + 1) h]; rfl
theorem erase_del : ∀ (l : List Ent) (k : Int) (j : Nat) (u : Value) (i : Nat), mpos l k i = some (j, u) → mdel l k = l.eraseIdx (j - i)
  | [], k, j, u, i, h => by cases h
  | e :: l, k, j, u, i, h => by
    unfold mpos at h
    unfold mdel
    by_cases hk : k = e.1
    · rw [if_pos hk] at h ⊢
      simp only [Option.some.injEq, Prod.mk.injEq] at h
      obtain ⟨rfl, rfl⟩ := h
      rw [Nat.sub_self]; rfl
    · rw [if_neg hk] at h ⊢
      obtain ⟨_, h6, _⟩ := mpos_some l k (i + 1) j u h
      rw [erase_del l k j u (i + 1) h, show j - i = (j - (i + 1)) + 1 by omega]; rfl
theorem none_del : ∀ (l : List Ent) (k : Int) (i : Nat), mpos l k i = none → mdel l k = l
  | [], k, i, h => rfl
  | e :: l, k, i, h => by
    unfold mpos at h
    unfold mdel
    by_cases hk : k = e.1
    · rw [if_pos hk] at h; cases h
    · rw [if_neg hk] at h ⊢
      rw [none_del l k (i + 1) h]
theorem run_mset {T K E : TypeId} {q : IntKind} (hT : P.underlying T = some (.map K E)) (hK : P.underlying K = some (.int q)) {w : World} {g : Nat} {l : List Ent} {c : Nat} (hg : w.heap[g]? = some (.map (l.map entM).toArray c)) (k : Int) (v : Value) :
    (Instr.mapUpdate T (.map (some g)) (.int .i64 k) v).run P w = .ok () (World.putO w g (.map ((mset l k v c).map entM).toArray (mclk l k c))) := by
  unfold Instr.mapUpdate
  simp only [Sem.run_bind, run_underlying hT, Result.andThen_ok, MapKept.run_getObj_map hg, run_checkKeyI hK, List.toList_toArray, run_findKey hK]
  have hc : mclk l k c = if ((mpos l k 0).map (·.2)).isSome = true then c else c + 1 := by rw [mpos_get]; rfl
  cases h : mpos l k 0 with
  | none =>
    rw [h] at hc
    rw [hc]
    simp only [MapKept.run_setObj_map _ hg]
    rw [push_set l k v c 0 h]
    simp [World.putO, entM]
  | some p =>
    obtain ⟨j, u⟩ := p
    obtain ⟨e1, h1, h2, h3, h4, h5⟩ := mpos_some l k 0 j u h
    rw [Nat.sub_zero] at h2
    rw [h] at hc
    rw [hc]
    have hks : (((l.map entM).toArray[j]?).map (·.key)).getD (.int .i64 k) = .int .i64 k := by
      simp [h2, entM, h3]
    have hsame : Instr.sameBits 10000 (.int .i64 k) (.int .i64 k) = true := by
      rw [show (10000 : Nat) = 9999 + 1 from rfl]
      simp [Instr.sameBits]
    have hstay : (Instr.keyThatStays (.int .i64 k) (.int .i64 k)).run P w = .ok (.int .i64 k) w := by
      unfold Instr.keyThatStays
      rw [hsame]
      rfl
    simp only [hks, Sem.run_bind, hstay, Result.andThen_ok, MapKept.run_setObj_map _ hg]
    have := modify_set l k v c j u 0 h
    rw [Nat.sub_zero] at this
    rw [this]
    simp [World.putO]
theorem map_erase {α β : Type} (f : α → β) : ∀ (l : List α) (j : Nat), (l.map f).eraseIdx j = (l.eraseIdx j).map f
  | [], _ => by simp
  | a :: l, 0 => rfl
  | a :: l, j + 1 => by simp [map_erase f l j]
theorem run_mdel {T K E : TypeId} {q : IntKind} (hT : P.underlying T = some (.map K E)) (hK : P.underlying K = some (.int q)) {w : World} {g : Nat} {l : List Ent} {c : Nat} (hg : w.heap[g]? = some (.map (l.map entM).toArray c)) (k : Int) (X ty : TypeId) :
    (Builtin.delete_ #[T, X] ty #[.map (some g), .int .i64 k]).run P w = .ok (.tuple #[]) (World.putO w g (.map ((mdel l k).map entM).toArray c)) := by
  unfold Builtin.delete_
  simp only [List.getElem?_toArray, List.getElem?_cons_zero, List.getElem?_cons_succ, Sem.run_bind, run_underlying hT, Result.andThen_ok, MapKept.run_getObj_map hg, run_checkKeyI hK, List.toList_toArray, run_findKey hK]
  cases h : mpos l k 0 with
  | none =>
    rw [none_del l k 0 h]
    simp only [Sem.run_bind, MapKept.run_setObj_map _ hg, Result.andThen_ok]
    rfl
  | some p =>
    obtain ⟨j, u⟩ := p
    obtain ⟨e1, h1, h2, h3, h4, h5⟩ := mpos_some l k 0 j u h
    have := erase_del l k j u 0 h
    rw [Nat.sub_zero] at this
    have e2 : ((l.map entM).toArray.eraseIdxIfInBounds j) = ((l.eraseIdx j).map entM).toArray := by
      rw [← map_erase entM l j]
      simp
    rw [this]
    simp only [e2, Sem.run_bind, MapKept.run_setObj_map _ hg, Result.andThen_ok]
    rfl
end

/-! ### A map as a thing -/
def Mp (g : Nat) (l : List Ent) (c : Nat) : Res := fun w F => w.heap[g]? = some (.map (l.map entM).toArray c) ∧ F g
theorem putO_at {w : World} {g : Nat} {o o' : Obj} (h : w.heap[g]? = some o) : (World.putO w g o').heap[g]? = some o' := by
  have := (Array.getElem?_eq_some_iff.1 h).1
  simp [World.putO, this]
theorem putO_other {w : World} {g k : Nat} {o : Obj} (h : k ≠ g) : (World.putO w g o).heap[k]? = w.heap[k]? := by
  simp [World.putO, Ne.symm h]
theorem putO_keeps (w : World) (g : Nat) (o : Obj) : Keeps (fun k => k = g) w (World.putO w g o) := ⟨rfl, rfl, rfl, by simp [World.putO], fun k _ hn => putO_other hn⟩
theorem lt_of_obj {w : World} {g : Nat} {o : Obj} (h : w.heap[g]? = some o) : g < w.heap.size := (Array.getElem?_eq_some_iff.1 h).1
instance fr_mp (g : Nat) (l : List Ent) (c : Nat) : Fr (Mp g l c) := ⟨fun ⟨h, hf⟩ hk => ⟨(hk g hf (lt_of_obj h)).trans h, hf⟩, fun ⟨h, hf⟩ hm => ⟨h, hm g hf (lt_of_obj h)⟩⟩
section
variable {B : Nat} {w wr w' : World} {Y : Res} {g : Nat} {l l' : List Ent} {c c' : Nat}
theorem Has.mp (h : Has B w wr (Star (Mp g l c) Y)) : wr.heap[g]? = some (.map (l.map entM).toArray c) := by
  obtain ⟨F, ⟨F1, F2, h1, _⟩, _⟩ := h.own
  exact h1.1
theorem Has.putmp [Fr Y] (h : Has B w wr (Star (Mp g l c) Y)) (l' : List Ent) (c' : Nat) : Has B w (World.putO wr g (.map (l'.map entM).toArray c')) (Star (Mp g l' c') Y) :=
  h.turn fun F ⟨h1, h2⟩ => ⟨⟨putO_at h1, .inl h2⟩, (putO_keeps wr g _).mono fun k e => by subst e; exact h2⟩
theorem Has.newmp [Fr Y] (h : Has B w wr Y) : Has B w (wr.alloc (.map #[] 0)) (Star (Mp wr.heap.size [] 0) Y) :=
  h.add ((Below.refl _ _).alloc (Nat.le_refl _) _) ⟨by simpa using heap_alloc_new wr (.map #[] 0), Nat.le_refl _⟩
end
end Go.Proofs.YtpenejigebkkmaaGreat

namespace Go.Proofs.YtpenejigebkkmaaGreat
open Go.RowKit
set_option linter.unusedVariables false
set_option linter.unusedSimpArgs false

section
variable {P : Program} {ops : Array Oper} {rest : List Oper} {o : Oper} {a : Go.Act} {Q : Exit → Go.Act → World → Prop} {w : World}
theorem wpList_ran {v : Value} {w' : World} (hgd : o.guard = none) (hr : (execOp a.eval o).run P w = .ok (.value v) w') (h : wpList P ops Q rest (a.put o.dst v) w') : wpList P ops Q (o :: rest) a w :=
  wpList_plain hgd fun K hK => by
    unfold Oper.wp
    rw [hr, Oper.upon_value]
    exact hK _ _ h
theorem wpList_skipped {w' : World} (hgd : o.guard = none) (hr : (execOp a.eval o).run P w = .ok .skip w') (h : wpList P ops Q rest (a.put o.dst undef) w') : wpList P ops Q (o :: rest) a w :=
  wpList_plain hgd fun K hK => by
    unfold Oper.wp
    rw [hr, Oper.upon_skip]
    exact hK _ _ h
theorem exec_mlook {T K E : TypeId} {q : IntKind} {m x : Operand} {ok : Bool} (ho : o.op = .lookup T m x ok) (hT : P.underlying T = some (.map K E)) (hK : P.underlying K = some (.int q)) {g : Nat} {l : List Ent} {c : Nat} (hm : a.eval m = .map (some g)) {k : Int} (hx : a.eval x = .int .i64 k)
    (hg : w.heap[g]? = some (.map (l.map entM).toArray c)) {z : Value} (hz : ∀ w : World, (zeroValue E).run P w = .ok z w) : (execOp a.eval o).run P w = .ok (.value (if ok then .tuple #[(mget l k).getD z, .bool (mget l k).isSome] else (mget l k).getD z)) w := by
  have hr := run_mlook (P := P) hT hK hg hz k ok
  unfold execOp
  rw [ho]
  simp only [hm, hx, Sem.run_bind, hr, Result.andThen_ok]
  rfl
theorem wpList_mlook (hgd : o.guard = none) (T K E : TypeId) {q : IntKind} (m x : Operand) (ho : o.op = .lookup T m x true) (hT : P.underlying T = some (.map K E)) (hK : P.underlying K = some (.int q)) (g : Nat) (l : List Ent) (c : Nat) (hm : a.eval m = .map (some g)) (k : Int) (hx : a.eval x = .int .i64 k)
    (hg : w.heap[g]? = some (.map (l.map entM).toArray c)) (z : Value) (hz : ∀ w : World, (zeroValue E).run P w = .ok z w) (h : wpList P ops Q rest (a.put o.dst (.tuple #[(mget l k).getD z, .bool (mget l k).isSome])) w) : wpList P ops Q (o :: rest) a w :=
  wpList_ran hgd (exec_mlook ho hT hK hm hx hg hz) h
theorem wpList_mlook1 (hgd : o.guard = none) (T K E : TypeId) {q : IntKind} (m x : Operand) (ho : o.op = .lookup T m x false) (hT : P.underlying T = some (.map K E)) (hK : P.underlying K = some (.int q)) (g : Nat) (l : List Ent) (c : Nat) (hm : a.eval m = .map (some g)) (k : Int) (hx : a.eval x = .int .i64 k)
    (hg : w.heap[g]? = some (.map (l.map entM).toArray c)) (z : Value) (hz : ∀ w : World, (zeroValue E).run P w = .ok z w) (h : wpList P ops Q rest (a.put o.dst ((mget l k).getD z)) w) : wpList P ops Q (o :: rest) a w :=
  wpList_ran hgd (exec_mlook ho hT hK hm hx hg hz) h
theorem exec_mset {T K E : TypeId} {q : IntKind} {m x y : Operand} (ho : o.op = .mapUpdate T m x y) (hT : P.underlying T = some (.map K E)) (hK : P.underlying K = some (.int q)) {g : Nat} {l : List Ent} {c : Nat} (hm : a.eval m = .map (some g)) {k : Int} (hx : a.eval x = .int .i64 k)
    {v : Value} (hv : a.eval y = v) (hg : w.heap[g]? = some (.map (l.map entM).toArray c)) : (execOp a.eval o).run P w = .ok .skip (World.putO w g (.map ((mset l k v c).map entM).toArray (mclk l k c))) := by
  have hr := run_mset (P := P) hT hK hg k v
  unfold execOp
  rw [ho]
  simp only [hm, hx, hv, Sem.run_bind, hr, Result.andThen_ok]
  rfl
theorem wpList_mset (hgd : o.guard = none) (T K E : TypeId) {q : IntKind} (m x y : Operand) (ho : o.op = .mapUpdate T m x y) (hT : P.underlying T = some (.map K E)) (hK : P.underlying K = some (.int q)) (g : Nat) (l : List Ent) (c : Nat) (hm : a.eval m = .map (some g)) (k : Int) (hx : a.eval x = .int .i64 k)
    (v : Value) (hv : a.eval y = v) (hg : w.heap[g]? = some (.map (l.map entM).toArray c)) (h : wpList P ops Q rest (a.put o.dst undef) (World.putO w g (.map ((mset l k v c).map entM).toArray (mclk l k c)))) : wpList P ops Q (o :: rest) a w :=
  wpList_skipped hgd (exec_mset ho hT hK hm hx hv hg) h
theorem exec_mdel {T K E X : TypeId} {q : IntKind} {m x : Operand} (ho : o.op = .call { callee := .builtin .delete, args := #[m, x], argTypes := #[T, X] }) (hT : P.underlying T = some (.map K E)) (hK : P.underlying K = some (.int q)) {g : Nat} {l : List Ent} {c : Nat} (hm : a.eval m = .map (some g)) {k : Int} (hx : a.eval x = .int .i64 k)
    (hg : w.heap[g]? = some (.map (l.map entM).toArray c)) : (execOp a.eval o).run P w = .ok (.value (.tuple #[])) (World.putO w g (.map ((mdel l k).map entM).toArray c)) := by
  have hr := run_mdel (P := P) hT hK hg k X o.type
  unfold execOp
  simp only [ho, resolve, invoke, builtin, Sem.run_bind, Sem.run_pure, Result.andThen_ok, List.map_toArray, List.map_cons, List.map_nil, hm, hx, hr]
theorem wpList_mdel (hgd : o.guard = none) (T K E X : TypeId) {q : IntKind} (m x : Operand) (ho : o.op = .call { callee := .builtin .delete, args := #[m, x], argTypes := #[T, X] }) (hT : P.underlying T = some (.map K E)) (hK : P.underlying K = some (.int q)) (g : Nat) (l : List Ent) (c : Nat) (hm : a.eval m = .map (some g)) (k : Int) (hx : a.eval x = .int .i64 k)
    (hg : w.heap[g]? = some (.map (l.map entM).toArray c)) (h : wpList P ops Q rest (a.put o.dst (.tuple #[])) (World.putO w g (.map ((mdel l k).map entM).toArray c))) : wpList P ops Q (o :: rest) a w :=
  wpList_ran hgd (exec_mdel ho hT hK hm hx hg) h

/-! ### Ranging -/
theorem wpList_mrange (hgd : o.guard = none) (T K E : TypeId) (m : Operand) (ho : o.op = .range T m) (hT : P.underlying T = some (.map K E)) (g : Nat) (l : List Ent) (c : Nat) (hm : a.eval m = .map (some g))
    (hg : w.heap[g]? = some (.map (l.map entM).toArray c)) (h : wpList P ops Q rest (a.put o.dst (.pointer (some ⟨w.heap.size, 0, none⟩))) (w.alloc (.mapIter (some g) c #[] c))) : wpList P ops Q (o :: rest) a w :=
  wpList_ran hgd (by
    have hr := run_range_map (P := P) w T K E g _ c hT hg
    unfold execOp
    rw [ho]
    simp only [hm, Sem.run_bind, hr, Result.andThen_ok]
    rfl) h
/-- The entries that have not come yet. -/
def leftE (l : List Ent) (seen : Array Nat) : List Ent := l.filter fun e => !seen.contains e.2.2
theorem run_mnext {it g since c0 c : Nat} {seen : Array Nat} {l : List Ent} (hi : w.heap[it]? = some (.mapIter (some g) since seen c0)) (hg : w.heap[g]? = some (.map (l.map entM).toArray c)) (hold : ∀ e ∈ l, e.2.2 < since) (hsc : since ≤ c0) (ty : TypeId) :
    (leftE l seen = [] ∧ (Instr.next (.pointer (some ⟨it, 0, none⟩)) false ty).run P w = .ok (.tuple #[.bool false]) w) ∨
    ∃ e ∈ leftE l seen, ∃ w' : World, (Instr.next (.pointer (some ⟨it, 0, none⟩)) false ty).run P w = .ok (.tuple #[.bool true, .int .i64 e.1, e.2.1]) w' ∧ w'.heap[it]? = some (.mapIter (some g) since (seen.push e.2.2) c) ∧ Keeps (fun k => k = it) w w' := by
  have ht := next_test_false seen (l.map entM).toArray since c0 (fun x hx => by
    rw [List.toList_toArray] at hx
    obtain ⟨e, he, rfl⟩ := List.mem_map.1 hx
    exact hold e he) hsc
  have hf : ((l.map entM).toArray.filter fun e => !seen.contains e.born) = ((leftE l seen).map entM).toArray := by
    unfold leftE
    rw [List.filter_toArray, List.filter_map]
    rfl
  have hlo : ∀ e ∈ leftE l seen, e.2.2 < since := fun e he => hold e (List.mem_filter.1 he).1
  generalize leftE l seen = L at hf hlo
  have e1 : ((L.map entM).toArray.filter fun x => decide (x.born < since)) = (L.map entM).toArray := by
    rw [List.filter_toArray]
    congr 1
    rw [List.filter_eq_self]
    intro x hx
    obtain ⟨e, he, rfl⟩ := List.mem_map.1 hx
    exact decide_eq_true (hlo e he)
  have e2 : ((L.map entM).toArray.filter fun x => decide (x.born ≥ since)) = #[] := by
    rw [List.filter_toArray]
    have : (L.map entM).filter (fun x => decide (x.born ≥ since)) = [] := by
      rw [List.filter_eq_nil_iff]
      intro x hx
      obtain ⟨e, he, rfl⟩ := List.mem_map.1 hx
      have := hlo e he
      simp [entM]
      omega
    rw [this]
  have hlt := lt_of_obj hi
  simp only [Instr.next, getObj, Sem.run_bind, Sem.run, hi, hg, Result.andThen, ht, Bool.false_eq_true, if_false, hf, e1, e2, Array.append_empty]
  cases L with
  | nil =>
    left
    refine ⟨rfl, ?_⟩
    simp [choose, Sem.run, Question.forced]
  | cons e0 L =>
    right
    have hne : ((e0 :: L).map entM).toArray.isEmpty = false := by simp [Array.isEmpty]
    simp only [hne, Bool.false_eq_true, if_false, Array.empty_append, Array.size_map]
    have hsz : ((e0 :: L).map entM).toArray.size = (e0 :: L).length := by simp
    rw [hsz]
    have hch : ∃ (j : Nat) (w1 : World), j < (e0 :: L).length ∧ w1.heap = w.heap ∧ Keeps (fun _ => False) w w1 ∧ (choose (Question.mapNext (e0 :: L).length)).run P w = .ok j w1 := by
      by_cases hq : (e0 :: L).length ≤ 1
      · exact ⟨0, w, by simp, rfl, Keeps.refl _ _, by simp only [choose, Sem.run, Question.forced, decide_eq_true hq, if_true]⟩
      · exact ⟨_, w.drew, Nat.mod_lt _ (by simp), rfl, ⟨rfl, rfl, rfl, Nat.le_refl _, fun _ _ _ => rfl⟩, by
          simp only [choose, Sem.run, Question.forced, decide_eq_true_eq, hq, if_false, Question.cut]
          rfl⟩
    obtain ⟨j, w1, hj, hh, hk, hrun⟩ := hch
    obtain ⟨e, he⟩ : ∃ e, (e0 :: L)[j]? = some e := ⟨_, List.getElem?_eq_getElem hj⟩
    refine ⟨e, List.mem_of_getElem? he, World.putO w1 it (.mapIter (some g) since (seen.push e.2.2) c), ?_, putO_at (o := .mapIter (some g) since seen c0) (by rw [hh]; exact hi), ?_⟩
    · have hget : (((e0 :: L).map entM).toArray.map some)[j]? = some (some (entM e)) := by
        rw [List.map_toArray, List.getElem?_toArray, List.getElem?_map, List.getElem?_map, he]; rfl
      have hi1 : w1.heap[it]? = some (.mapIter (some g) since seen c0) := by rw [hh]; exact hi
      have hset : ∀ o', (setObj it o').run P w1 = .ok () (World.putO w1 it o') := fun o' => by simp [setObj, Sem.run, hi1, World.putO]
      simp only [hrun, hget, Sem.run_bind, hset, Result.andThen]
      rfl
    · exact (hk.mono (fun _ h => h.elim)).trans (putO_keeps w1 it _) (fun i hi => .inl hi)
theorem wpList_mnext (hgd : o.guard = none) (x : Operand) (ho : o.op = .next x false) (it g since c0 c : Nat) (seen : Array Nat) (l : List Ent) (hx : a.eval x = .pointer (some ⟨it, 0, none⟩)) (hi : w.heap[it]? = some (.mapIter (some g) since seen c0)) (hg : w.heap[g]? = some (.map (l.map entM).toArray c)) (hold : ∀ e ∈ l, e.2.2 < since) (hsc : since ≤ c0)
    (hDone : leftE l seen = [] → wpList P ops Q rest (a.put o.dst (.tuple #[.bool false])) w)
    (hMore : ∀ (e : Ent) (w' : World), e ∈ leftE l seen → w'.heap[it]? = some (.mapIter (some g) since (seen.push e.2.2) c) → Keeps (fun k => k = it) w w' → wpList P ops Q rest (a.put o.dst (.tuple #[.bool true, .int .i64 e.1, e.2.1])) w') : wpList P ops Q (o :: rest) a w := by
  rcases run_mnext (P := P) hi hg hold hsc o.type with ⟨h1, h2⟩ | ⟨e, h1, w', h2, h3, h4⟩
  · refine wpList_ran hgd ?_ (hDone h1)
    unfold execOp
    rw [ho]
    simp only [hx, Sem.run_bind, h2, Result.andThen_ok]
    rfl
  · refine wpList_ran hgd ?_ (hMore e w' h1 h3 h4)
    unfold execOp
    rw [ho]
    simp only [hx, Sem.run_bind, h2, Result.andThen_ok]
    rfl
theorem wpList_mentry (hgd : o.guard = none) (x : Operand) (ho : o.op = .entry x) (it g since c : Nat) (seen : Array Nat) (l : List Ent) (e : Ent) (hx : a.eval x = .pointer (some ⟨it, 0, none⟩)) (hi : w.heap[it]? = some (.mapIter (some g) since (seen.push e.2.2) c)) (hg : w.heap[g]? = some (.map (l.map entM).toArray c)) (he : e ∈ l) (hn : (l.map (·.2.2)).Nodup)
    (h : wpList P ops Q rest (a.put o.dst (.tuple #[.int .i64 e.1, e.2.1])) w) : wpList P ops Q (o :: rest) a w := by
  refine wpList_ran hgd ?_ h
  have hf : (l.map entM).toArray.find? (·.born == (entM e).born) = some (entM e) := by
    rw [← Array.find?_toList]
    refine find_born (entM e) _ ?_ ?_
    · rw [List.toList_toArray, List.map_map]; exact hn
    · rw [List.toList_toArray]; exact List.mem_map_of_mem he
  unfold execOp
  rw [ho]
  simp only [hx, Instr.entry, getObj, Sem.run_bind, Sem.run, hi, hg, Result.andThen, Array.back?_push, bne_self_eq_false, Bool.false_eq_true, if_false]
  rw [show (fun x : MapEntry => x.born == e.2.2) = (fun x => x.born == (entM e).born) from rfl, hf]
  rfl
end
theorem leftE_push {l : List Ent} {seen : Array Nat} {e : Ent} (hl : (l.map (·.2.2)).Nodup) (he : e ∈ leftE l seen) : (leftE l (seen.push e.2.2)).length < (leftE l seen).length := by
  have h1 := List.mem_filter.1 he
  unfold leftE
  refine filter_lt (fun x : Ent => !seen.contains x.2.2) (fun x => !(seen.push e.2.2).contains x.2.2) (fun x hx => ?_) e h1.2 ?_ l h1.1
  · rw [contains_push] at hx
    cases hc : seen.contains x.2.2 with
    | false => rfl
    | true => rw [hc, Bool.true_or] at hx; exact absurd hx (by decide)
  · rw [contains_push, beq_self_eq_true, Bool.or_true]; rfl
theorem leftE_mem {l : List Ent} {seen : Array Nat} {e : Ent} (he : e ∈ leftE l seen) : e ∈ l := (List.mem_filter.1 he).1
/-- An iterator as a thing. -/
def Itr (it g since : Nat) (seen : Array Nat) (c0 : Nat) : Res := fun w F => w.heap[it]? = some (.mapIter (some g) since seen c0) ∧ F it
instance fr_itr (it g since : Nat) (seen : Array Nat) (c0 : Nat) : Fr (Itr it g since seen c0) := ⟨fun ⟨h, hf⟩ hk => ⟨(hk it hf (lt_of_obj h)).trans h, hf⟩, fun ⟨h, hf⟩ hm => ⟨h, hm it hf (lt_of_obj h)⟩⟩
section
variable {B : Nat} {w wr w' : World} {Y : Res} {it g since c0 c : Nat} {seen : Array Nat}
theorem Has.itr (h : Has B w wr (Star (Itr it g since seen c0) Y)) : wr.heap[it]? = some (.mapIter (some g) since seen c0) := by
  obtain ⟨F, ⟨F1, F2, h1, _⟩, _⟩ := h.own
  exact h1.1
theorem Has.newitr [Fr Y] (h : Has B w wr Y) (g c : Nat) : Has B w (wr.alloc (.mapIter (some g) c #[] c)) (Star (Itr wr.heap.size g c #[] c) Y) :=
  h.add ((Below.refl _ _).alloc (Nat.le_refl _) _) ⟨heap_alloc_new wr _, Nat.le_refl _⟩
theorem Has.stepitr [Fr Y] (h : Has B w wr (Star (Itr it g since seen c0) Y)) {seen' : Array Nat} (hi : w'.heap[it]? = some (.mapIter (some g) since seen' c)) (hk : Keeps (fun k => k = it) wr w') : Has B w w' (Star (Itr it g since seen' c) Y) :=
  h.turn fun F ⟨h1, h2⟩ => ⟨⟨hi, .inl h2⟩, hk.mono fun k e => by subst e; exact h2⟩
theorem Has.iseen (h : Has B w wr (Star (Itr it g since seen c0) Y)) : wr.iterSeen it = seen := by
  unfold World.iterSeen
  rw [h.itr]
end
end Go.Proofs.YtpenejigebkkmaaGreat

namespace Go.Proofs.YtpenejigebkkmaaGreat
open Go.RowKit Spm
set_option linter.unusedVariables false
set_option linter.unusedSimpArgs false

/-! ### Maps, picked by their block's number -/
class PickM (g : Nat) (l : outParam (List Ent)) (c : outParam Nat) (Y : Res) (R : outParam Res) : Prop where
  pick : ∀ {w : World} {F : Nat → Prop}, Y w F → Star (Mp g l c) R w F
instance pickm_here {g : Nat} {l : List Ent} {c : Nat} {R : Res} : PickM g l c (Star (Mp g l c) R) R := ⟨fun h => h⟩
instance pickm_there {g : Nat} {l : List Ent} {c : Nat} {Y R Z : Res} [h : PickM g l c Y R] : PickM g l c (Star Z Y) (Star Z R) := ⟨fun hy => Star.swap (Star.under (fun _ => h.pick) hy)⟩
class UpdM (g : Nat) (l : outParam (List Ent)) (c : outParam Nat) (l' : List Ent) (c' : Nat) (Y : Res) (Y' : outParam Res) : Prop where
  old : ∀ {w : World} {F : Nat → Prop}, Y w F → F g ∧ w.heap[g]? = some (.map (l.map entM).toArray c)
  put : ∀ {w : World} {F : Nat → Prop}, Y w F → Y' (World.putO w g (.map (l'.map entM).toArray c')) F
instance updm_here {g : Nat} {l l' : List Ent} {c c' : Nat} {R : Res} [hR : Fr R] : UpdM g l c l' c' (Star (Mp g l c) R) (Star (Mp g l' c') R) where
  old := fun ⟨F1, F2, h1, h2, hd, g1, g2⟩ => ⟨g1 g h1.2, h1.1⟩
  put := fun ⟨F1, F2, h1, h2, hd, g1, g2⟩ => ⟨F1, F2, ⟨putO_at h1.1, h1.2⟩, hR.keep h2 (fun k hk _ => putO_other (fun e => hd g h1.2 (e ▸ hk))), hd, g1, g2⟩
instance updm_there {g : Nat} {l l' : List Ent} {c c' : Nat} {Y Y' Z : Res} [h : UpdM g l c l' c' Y Y'] [hZ : Fr Z] : UpdM g l c l' c' (Star Z Y) (Star Z Y') where
  old := fun ⟨F1, F2, h1, h2, hd, g1, g2⟩ => ⟨g2 g (h.old h2).1, (h.old h2).2⟩
  put := fun ⟨F1, F2, h1, h2, hd, g1, g2⟩ => ⟨F1, F2, hZ.keep h1 (fun k hk _ => putO_other (fun e => hd k hk (e ▸ (h.old h2).1))), h.put h2, hd, g1, g2⟩
section
variable {B : Nat} {w wr w' : World} {Y Y' R : Res} {l l' : List Ent} {c c' : Nat}
theorem Has.pickm (h : Has B w wr Y) (g : Nat) [hp : PickM g l c Y R] : Has B w wr (Star (Mp g l c) R) := h.imp fun _ => hp.pick
theorem Has.getm (h : Has B w wr Y) (g : Nat) [hp : PickM g l c Y R] : wr.heap[g]? = some (.map (l.map entM).toArray c) := (h.pickm g).mp
theorem Has.setm (h : Has B w wr Y) (g : Nat) (l' : List Ent) (c' : Nat) [hp : UpdM g l c l' c' Y Y'] : Has B w (World.putO wr g (.map (l'.map entM).toArray c')) Y' := by
  obtain ⟨F, h1, h2⟩ := h.own
  have hs : (World.putO wr g (.map (l'.map entM).toArray c')).heap.size = wr.heap.size := by simp [World.putO]
  exact ⟨⟨F, hp.put h1, h2⟩, h.bel.trans ((putO_keeps wr g _).below h.le (fun k e => by subst e; exact h2 _ (hp.old h1).1)), by rw [hs]; exact h.le⟩
end

/-! ### Things in a row -/
def All {α : Type} (f : α → Res) : List α → Res
  | [] => Emp
  | x :: l => Star (f x) (All f l)
instance fr_all {α : Type} (f : α → Res) [hf : ∀ x, Fr (f x)] : (l : List α) → Fr (All f l)
  | [] => fr_emp
  | x :: l => @fr_star (f x) (All f l) (hf x) (fr_all f l)
theorem All.out {α : Type} {f : α → Res} {x : α} {l2 : List α} {w : World} : ∀ {l1 : List α} {F : Nat → Prop}, All f (l1 ++ x :: l2) w F → Star (f x) (All f (l1 ++ l2)) w F
  | [], F, h => h
  | y :: l1, F, h => Star.swap (Star.under (fun _ => All.out (l1 := l1)) h)
theorem All.put {α : Type} {f : α → Res} {x : α} {l2 : List α} {w : World} : ∀ {l1 : List α} {F : Nat → Prop}, Star (f x) (All f (l1 ++ l2)) w F → All f (l1 ++ x :: l2) w F
  | [], F, h => h
  | y :: l1, F, h => Star.under (fun _ => All.put (l1 := l1)) (Star.swap h)

/-! ### The state -/
/-- A module; a block; their entries in the state's maps. -/
structure Mdl where
  gen : Int
  size : Int
  tm : List UInt8
  st : Bool
  bh : Int
structure MdE where
  k : Int
  x : Mdl
  v : Value
  b : Nat
structure Bk where
  md : Int
  gn : Int
  at_ : Int
  sz : Int
structure BkE where
  k : Int
  x : Bk
  b : Nat
structure GnE where
  k : Int
  n : Int
  b : Nat
structure ThE where
  k : Int
  tp : Int
  g : Nat
  bl : List BkE
  c : Nat
  b : Nat
def mdA (x : Mdl) (v : Value) : Array Value := #[.int .i64 x.gen, .int .i64 x.size, v, .bool x.st, .int .i64 x.bh]
def bkA (x : Bk) : Array Value := #[.int .i64 x.md, .int .i64 x.gn, .int .i64 x.at_, .int .i64 x.sz]
def thA (tp : Int) (g : Nat) : Array Value := #[.int .i64 tp, .map (some g)]
def MdE.ent (e : MdE) : Ent := (e.k, .agg (mdA e.x e.v), e.b)
def BkE.ent (e : BkE) : Ent := (e.k, .agg (bkA e.x), e.b)
def GnE.ent (e : GnE) : Ent := (e.k, .int .i64 e.n, e.b)
def ThE.ent (e : ThE) : Ent := (e.k, .agg (thA e.tp e.g), e.b)
structure Ts where
  ml : List MdE
  mc : Nat
  gl : List GnE
  gc : Nat
  tl : List ThE
  tc : Nat
  sd : Bool
  ar : Int
  gm : Nat
  gg : Nat
  gt : Nat
structure TsGood (t : Ts) : Prop where
  gdm : Good (t.ml.map MdE.ent) t.mc
  gdg : Good (t.gl.map GnE.ent) t.gc
  gdt : Good (t.tl.map ThE.ent) t.tc
  gdb : ∀ x : ThE, x ∈ t.tl → Good (x.bl.map BkE.ent) x.c
def Ts.arr (t : Ts) : Array Value := #[.map (some t.gm), .map (some t.gg), .map (some t.gt), .bool t.sd, .int .i64 t.ar]
def mdR (e : MdE) : Res := Bt e.v e.x.tm
def thR (t : ThE) : Res := Mp t.g (t.bl.map BkE.ent) t.c
instance fr_mdR (e : MdE) : Fr (mdR e) := inferInstanceAs (Fr (Bt e.v e.x.tm))
instance fr_thR (t : ThE) : Fr (thR t) := inferInstanceAs (Fr (Mp t.g (t.bl.map BkE.ent) t.c))
/-- The state in memory, and what is beside it. -/
abbrev Tl (s : Nat) (t : Ts) (Y : Res) : Res := Star (Cel s 56 t.arr) (Star (Mp t.gm (t.ml.map MdE.ent) t.mc) (Star (Mp t.gg (t.gl.map GnE.ent) t.gc) (Star (Mp t.gt (t.tl.map ThE.ent) t.tc) (Star (All mdR t.ml) (Star (All thR t.tl) Y)))))
def ts0 (gm gg gt : Nat) : Ts := ⟨[], 0, [], 0, [], 0, false, 0, gm, gg, gt⟩
theorem ts0_good (gm gg gt : Nat) : TsGood (ts0 gm gg gt) := ⟨Good.nil, Good.nil, Good.nil, fun x h => by simp [ts0] at h⟩

/-! ### New, Gen, up -/
theorem z_int : ∀ w : World, (zeroValue 3).run Tryz.prog w = .ok (.int .i64 0) w := fun w => by rw [Tryz.zeroValue3]
theorem z_mod : ∀ w : World, (zeroValue 62).run Tryz.prog w = .ok (.agg (mdA ⟨0, 0, [], false, 0⟩ (.slice none 0 0))) w := fun w => by rw [Tryz.zeroValue62]; rfl
theorem z_thr : ∀ w : World, (zeroValue 66).run Tryz.prog w = .ok (.agg #[.int .i64 0, .map none]) w := fun w => by rw [Tryz.zeroValue66]
theorem z_blk : ∀ w : World, (zeroValue 69).run Tryz.prog w = .ok (.agg (bkA ⟨0, 0, 0, 0⟩)) w := fun w => by rw [Tryz.zeroValue69]; rfl
theorem wpList_mmake {P : Program} {ops : Array Oper} {rest : List Oper} {o : Oper} {a : Go.Act} {Q : Exit → Go.Act → World → Prop} {w : World} (hgd : o.guard = none) (T : TypeId) (ho : o.op = .makeMap T none) (h : wpList P ops Q rest (a.put o.dst (.map (some w.heap.size))) (w.alloc (.map #[] 0))) : wpList P ops Q (o :: rest) a w :=
  wpList_ran hgd (by
    unfold execOp
    rw [ho]
    simp only [Option.map_none, Sem.run_bind, run_makeMap, Result.andThen_ok]
    rfl) h
theorem star_emp {X : Res} {w : World} {F : Nat → Prop} (h : X w F) : Star Emp X w F := ⟨fun _ => False, F, trivial, h, fun _ h => h.elim, fun _ h => h.elim, fun _ h => h⟩
instance (priority := high) sub_all_nil {α : Type} {f : α → Res} {X Y : Res} [h : Sub X Y] : Sub (Star (All f []) X) Y := ⟨fun hy => star_emp (h.sub hy)⟩
set_option maxRecDepth 100000 in
set_option maxHeartbeats 4000000 in
theorem tnew_any {B : Nat} {w wr : World} {Y : Res} [hY : Fr Y] (h : Has B w wr Y) : Calls Tryz.prog 5 #[] wr fun e w' => ∃ s gm gg gt, e = .returned (.pointer (some ⟨s, 0, none⟩)) ∧ Has B w w' (Tl s (ts0 gm gg gt) Y) := by
  obtain ⟨W1, hW1⟩ : ∃ W1, wr.alloc (.map #[] 0) = W1 := ⟨_, rfl⟩
  obtain ⟨W2, hW2⟩ : ∃ W2, W1.alloc (.map #[] 0) = W2 := ⟨_, rfl⟩
  obtain ⟨W3, hW3⟩ : ∃ W3, W2.alloc (.map #[] 0) = W3 := ⟨_, rfl⟩
  have M1 := h.newmp
  rw [hW1] at M1
  have M2 := M1.newmp
  rw [hW2] at M2
  have M3 := M2.newmp
  rw [hW3] at M3
  have M4 := M3.newcel 56 #[.map (some wr.heap.size), .map (some W1.heap.size), .map (some W2.heap.size), .bool false, .int .i64 0]
  have HF : Hid (∃ s gm gg gt, (Ending.returned (.pointer (some ⟨W3.heap.size, 0, none⟩)) = .returned (.pointer (some ⟨s, 0, none⟩))) ∧ Has B w (W3.alloc (.cells #[.map (some wr.heap.size), .map (some W1.heap.size), .map (some W2.heap.size), .bool false, .int .i64 0] 56)) (Tl s (ts0 gm gg gt) Y)) := Lib.hid ⟨W3.heap.size, wr.heap.size, W1.heap.size, W2.heap.size, rfl,
    (M4.norm (Star (Cel W3.heap.size 56 #[.map (some wr.heap.size), .map (some W1.heap.size), .map (some W2.heap.size), .bool false, .int .i64 0]) (Star (Mp wr.heap.size [] 0) (Star (Mp W1.heap.size [] 0) (Star (Mp W2.heap.size [] 0) (Star (All mdR []) (Star (All thR []) Y)))))))⟩
  have e1 : W1.heap.size = wr.heap.size + 1 := by rw [← hW1]; simp
  have e2 : W2.heap.size = wr.heap.size + 1 + 1 := by rw [← hW2, ← e1]; simp
  have e3 : W3.heap.size = wr.heap.size + 1 + 1 + 1 := by rw [← hW3, ← e2]; simp
  rw [e3, e2, e1] at HF
  clear M1 M2 M3 M4 h e1 e2 e3
  subst hW1 hW2 hW3
  go_enter Tryz.func5, Tryz.ntmps5
  go_wp2_with (first | (refine wpList_mmake rfl _ rfl ?_))
  go_ret
  exact HF.out
end Go.Proofs.YtpenejigebkkmaaGreat

namespace Go.Proofs.YtpenejigebkkmaaGreat
open Go.RowKit Spm
set_option linter.unusedVariables false
set_option linter.unusedSimpArgs false

section
variable {α : Type}
def efind (key : α → Int) : List α → Int → Option α
  | [], _ => none
  | e :: l, k => if k = key e then some e else efind key l k
def eset (key : α → Int) (st : α → Nat) (mk : Nat → α) (c : Nat) : List α → Int → List α
  | [], _ => [mk c]
  | e :: l, k => if k = key e then mk (st e) :: l else e :: eset key st mk c l k
def edel (key : α → Int) : List α → Int → List α
  | [], _ => []
  | e :: l, k => if k = key e then l else e :: edel key l k
theorem mget_efind {ent : α → Ent} {key : α → Int} (hk : ∀ e, (ent e).1 = key e) (k : Int) : ∀ l : List α, mget (l.map ent) k = (efind key l k).map fun e => (ent e).2.1
  | [] => rfl
  | e :: l => by
    rw [List.map_cons]
    unfold mget efind
    rw [hk]
    by_cases h : k = key e
    · rw [if_pos h, if_pos h]; rfl
    · rw [if_neg h, if_neg h]; exact mget_efind hk k l
theorem mset_eset {ent : α → Ent} {key : α → Int} {st : α → Nat} (hk : ∀ e, (ent e).1 = key e) (hs : ∀ e, (ent e).2.2 = st e) {k : Int} {v : Value} {mk : Nat → α} (hm : ∀ b, ent (mk b) = (k, v, b)) (c : Nat) : ∀ l : List α, mset (l.map ent) k v c = (eset key st mk c l k).map ent
  | [] => by
    show [(k, v, c)] = [ent (mk c)]
    rw [hm]
  | e :: l => by
    rw [List.map_cons]
    unfold mset eset
    rw [hk, hs]
    by_cases h : k = key e
    · rw [if_pos h, if_pos h, List.map_cons, hm]
    · rw [if_neg h, if_neg h, List.map_cons, mset_eset hk hs hm c l]
theorem mdel_edel {ent : α → Ent} {key : α → Int} (hk : ∀ e, (ent e).1 = key e) (k : Int) : ∀ l : List α, mdel (l.map ent) k = (edel key l k).map ent
  | [] => rfl
  | e :: l => by
    rw [List.map_cons]
    unfold mdel edel
    rw [hk]
    by_cases h : k = key e
    · rw [if_pos h, if_pos h]
    · rw [if_neg h, if_neg h, List.map_cons, mdel_edel hk k l]
theorem efind_split {key : α → Int} {k : Int} {x : α} : ∀ {l : List α}, efind key l k = some x → ∃ l1 l2, l = l1 ++ x :: l2 ∧ edel key l k = l1 ++ l2 ∧ key x = k ∧ (∀ (st : α → Nat) (mk : Nat → α) (c : Nat), eset key st mk c l k = l1 ++ mk (st x) :: l2)
  | [], h => by cases h
  | e :: l, h => by
    unfold efind at h
    by_cases hk : k = key e
    · rw [if_pos hk] at h
      obtain rfl := Option.some.inj h
      exact ⟨[], l, rfl, by unfold edel; rw [if_pos hk]; rfl, hk.symm, fun st mk c => by unfold eset; rw [if_pos hk]; rfl⟩
    · rw [if_neg hk] at h
      obtain ⟨l1, l2, h1, h2, h3, h4⟩ := efind_split h
      exact ⟨e :: l1, l2, by rw [h1]; rfl, by unfold edel; rw [if_neg hk, h2]; rfl, h3, fun st mk c => by unfold eset; rw [if_neg hk, h4]; rfl⟩
theorem eset_new {key : α → Int} {k : Int} : ∀ {l : List α}, efind key l k = none → ∀ (st : α → Nat) (mk : Nat → α) (c : Nat), eset key st mk c l k = l ++ [mk c]
  | [], _, st, mk, c => rfl
  | e :: l, h, st, mk, c => by
    unfold efind at h
    by_cases hk : k = key e
    · rw [if_pos hk] at h; cases h
    · rw [if_neg hk] at h
      unfold eset
      rw [if_neg hk, eset_new h]; rfl
theorem left_perm (st : α → Nat) {x : α} : ∀ {l : List α}, (l.map st).Nodup → x ∈ l → l.Perm (x :: l.filter fun y => !(st y == st x))
  | [], _, h => by simp at h
  | y :: l, hn, hx => by
    rw [List.map_cons, List.nodup_cons] at hn
    rcases List.mem_cons.1 hx with rfl | h1
    · rw [List.filter_cons, beq_self_eq_true]
      simp only [Bool.not_true, Bool.false_eq_true, if_false]
      have : l.filter (fun y => !(st y == st x)) = l := by
        rw [List.filter_eq_self]
        intro z hz
        cases hc : st z == st x with
        | false => rfl
        | true => exact absurd (by rw [← beq_iff_eq.1 hc]; exact List.mem_map_of_mem hz) hn.1
      rw [this]
    · have hne : (st y == st x) = false := beq_eq_false_iff_ne.2 (fun e => hn.1 (by rw [e]; exact List.mem_map_of_mem h1))
      rw [List.filter_cons, hne]
      simp only [Bool.not_false, if_true]
      exact ((left_perm st hn.2 h1).cons y).trans (List.Perm.swap x y _)
/-- What has not come yet. -/
def leftA (st : α → Nat) (l : List α) (seen : Array Nat) : List α := l.filter fun e => !seen.contains (st e)
theorem leftA_push {st : α → Nat} {l : List α} (hn : (l.map st).Nodup) {seen : Array Nat} {x : α} (hx : x ∈ leftA st l seen) : (leftA st l seen).Perm (x :: leftA st l (seen.push (st x))) := by
  have h1 : ((leftA st l seen).map st).Nodup := hn.sublist ((List.filter_sublist ..).map _)
  have h2 := left_perm st h1 hx
  have h3 : (leftA st l seen).filter (fun y => !(st y == st x)) = leftA st l (seen.push (st x)) := by
    unfold leftA
    rw [List.filter_filter]
    congr 1
    funext y
    rw [contains_push]
    cases seen.contains (st y) <;> cases (st y == st x) <;> rfl
  rw [h3] at h2
  exact h2
theorem leftA_none (st : α → Nat) (l : List α) : leftA st l #[] = l := by
  unfold leftA
  rw [List.filter_eq_self]
  intro x hx
  simp
theorem leftE_A {ent : α → Ent} {st : α → Nat} (hs : ∀ e, (ent e).2.2 = st e) (l : List α) (seen : Array Nat) : leftE (l.map ent) seen = (leftA st l seen).map ent := by
  unfold leftE leftA
  rw [List.filter_map]
  congr 2
  funext e
  simp [hs]
end

section
variable {P : Program} {ops : Array Oper} {rest : List Oper} {o : Oper} {a : Go.Act} {Q : Exit → Go.Act → World → Prop} {w : World}
theorem wpList_mlookR (hgd : o.guard = none) (T K E : TypeId) {q : IntKind} (m x : Operand) (ho : o.op = .lookup T m x true) (hT : P.underlying T = some (.map K E)) (hK : P.underlying K = some (.int q)) (g : Nat) (l : List Ent) (c : Nat) (hm : a.eval m = .map (some g)) (k : Int) (hx : a.eval x = .int .i64 k)
    (hg : w.heap[g]? = some (.map (l.map entM).toArray c)) (z : Value) (hz : ∀ w : World, (zeroValue E).run P w = .ok z w) (v : Value) (b : Bool) (hv : (mget l k).getD z = v) (hb : (mget l k).isSome = b) (h : wpList P ops Q rest (a.put o.dst (.tuple #[v, .bool b])) w) : wpList P ops Q (o :: rest) a w := by
  subst hv hb
  exact wpList_mlook hgd T K E m x ho hT hK g l c hm k hx hg z hz h
theorem wpList_mlookV (hgd : o.guard = none) (T K E : TypeId) {q : IntKind} (m x : Operand) (ho : o.op = .lookup T m x false) (hT : P.underlying T = some (.map K E)) (hK : P.underlying K = some (.int q)) (g : Nat) (l : List Ent) (c : Nat) (hm : a.eval m = .map (some g)) (k : Int) (hx : a.eval x = .int .i64 k)
    (hg : w.heap[g]? = some (.map (l.map entM).toArray c)) (z : Value) (hz : ∀ w : World, (zeroValue E).run P w = .ok z w) (v : Value) (hv : (mget l k).getD z = v) (h : wpList P ops Q rest (a.put o.dst v) w) : wpList P ops Q (o :: rest) a w := by
  subst hv
  exact wpList_mlook1 hgd T K E m x ho hT hK g l c hm k hx hg z hz h
theorem run_mnextA {α : Type} {ent : α → Ent} {key : α → Int} {val : α → Value} {st : α → Nat} (he : ∀ e, ent e = (key e, val e, st e)) {it g since c0 c : Nat} {seen : Array Nat} {l : List α} (hi : w.heap[it]? = some (.mapIter (some g) since seen c0)) (hg : w.heap[g]? = some (.map ((l.map ent).map entM).toArray c)) (hold : ∀ e ∈ l.map ent, e.2.2 < since) (hsc : since ≤ c0) :
    (leftA st l seen = [] ∧ (Instr.next (.pointer (some ⟨it, 0, none⟩)) false 0).run P w = .ok (.tuple #[.bool false]) w) ∨
    ∃ y ∈ leftA st l seen, ∃ w' : World, (Instr.next (.pointer (some ⟨it, 0, none⟩)) false 0).run P w = .ok (.tuple #[.bool true, .int .i64 (key y), val y]) w' ∧ w'.heap[it]? = some (.mapIter (some g) since (seen.push (st y)) c) ∧ Keeps (fun k => k = it) w w' := by
  have hl := leftE_A (ent := ent) (st := st) (fun e => by rw [he]) l seen
  rcases run_mnext (P := P) hi hg hold hsc 0 with ⟨h1, h2⟩ | ⟨e, h1, w', h2, h3, h4⟩
  · rw [hl] at h1
    exact .inl ⟨List.map_eq_nil_iff.1 h1, h2⟩
  · rw [hl] at h1
    obtain ⟨y, hy, rfl⟩ := List.mem_map.1 h1
    rw [he] at h2 h3
    exact .inr ⟨y, hy, w', h2, h3, h4⟩
theorem wpList_next0 {v : Value} {w' : World} (hgd : o.guard = none) (x : Operand) (ho : o.op = .next x false) (it : Nat) (hx : a.eval x = .pointer (some ⟨it, 0, none⟩)) (hr : (Instr.next (.pointer (some ⟨it, 0, none⟩)) false 0).run P w = .ok v w') (h : wpList P ops Q rest (a.put o.dst v) w') : wpList P ops Q (o :: rest) a w :=
  wpList_ran hgd (by
    have hr2 : (Instr.next (.pointer (some ⟨it, 0, none⟩)) false o.type).run P w = .ok v w' := hr
    unfold execOp
    rw [ho]
    simp only [hx, Sem.run_bind, hr2, Result.andThen_ok]
    rfl) h
theorem wpList_mentryA {α : Type} {ent : α → Ent} {key : α → Int} {val : α → Value} {st : α → Nat} (he : ∀ e, ent e = (key e, val e, st e)) (hgd : o.guard = none) (x : Operand) (ho : o.op = .entry x) (it g since c : Nat) (seen : Array Nat) (l : List α) (y : α) (hx : a.eval x = .pointer (some ⟨it, 0, none⟩)) (hi : w.heap[it]? = some (.mapIter (some g) since (seen.push (st y)) c)) (hg : w.heap[g]? = some (.map ((l.map ent).map entM).toArray c)) (hy : y ∈ l) (hn : ((l.map ent).map (·.2.2)).Nodup)
    (h : wpList P ops Q rest (a.put o.dst (.tuple #[.int .i64 (key y), val y])) w) : wpList P ops Q (o :: rest) a w := by
  have e1 := he y
  refine wpList_mentry hgd x ho it g since c seen (l.map ent) (ent y) hx ?_ hg (List.mem_map_of_mem hy) hn ?_
  · rw [e1]; exact hi
  · rw [e1]; exact h
end

/-! ### up, Gen -/
def upT (n : Int) : Int := (n + 7) / 8 * 8
set_option maxRecDepth 100000 in
set_option maxHeartbeats 4000000 in
theorem tup_any (n : Int) (h0 : 0 ≤ n) (h1 : n ≤ 1099511627776) (w : World) : Calls Tryz.prog 22 #[.int .i64 n] w fun e w' => e = .returned (.int .i64 (upT n)) ∧ w = w' := by
  obtain ⟨m, rfl⟩ : ∃ m : Nat, n = m := ⟨n.toNat, by omega⟩
  have e1 : IntKind.i64.wrap ((m : Int) + 7) = (m : Int) + 7 := by rw [IntKind.wrap_i64]; omega
  have e2 : ((m : Int) + 7).tdiv 8 = ((m : Int) + 7) / 8 := Int.tdiv_eq_ediv_of_nonneg (by omega)
  have HU : Hid (upT m = ((m : Int) + 7) / 8 * 8) := Lib.hid rfl
  go_enter Tryz.func22, Tryz.ntmps22
  go_wp2
  go_ret
  refine ⟨?_, rfl⟩
  rw [HU.out]
  first
    | rfl
    | (show Ending.returned (.int .i64 _) = _
       congr 2
       simp only [wrap64]
       omega)
def gget (l : List GnE) (k : Int) : Int := ((efind GnE.k l k).map GnE.n).getD 0
theorem gget_m (l : List GnE) (k : Int) : (mget (l.map GnE.ent) k).getD (.int .i64 0) = .int .i64 (gget l k) := by
  rw [mget_efind (key := GnE.k) (fun _ => rfl)]
  unfold gget
  cases efind GnE.k l k <;> rfl
set_option maxRecDepth 100000 in
set_option maxHeartbeats 4000000 in
theorem tgen_any {B : Nat} {w wr : World} {Y : Res} [hY : Fr Y] {s : Nat} {t : Ts} (h : Has B w wr (Tl s t Y)) (k : Int) : Calls Tryz.prog 17 #[.pointer (some ⟨s, 0, none⟩), .int .i64 k] wr fun e w' => e = .returned (.int .i64 (gget t.gl k)) ∧ w' = wr := by
  have M0 := Lib.hid h
  have s1 : wr.cell? ⟨s, 1, none⟩ = some (.map (some t.gg)) := M0.out.cellat s 1 rfl
  clear h
  go_enter Tryz.func17, Tryz.ntmps17
  go_wp2_with (first | (refine wpList_mlookV rfl 53 3 3 _ _ rfl Tryz.underlying53 Tryz.underlying3 t.gg _ _ rfl k rfl (M0.out.getm t.gg) (.int .i64 0) z_int _ (gget_m t.gl k) ?_))
  go_ret
  exact ⟨rfl, rfl⟩
end Go.Proofs.YtpenejigebkkmaaGreat
