/-
  Maps whose keys are integers: the operations, for the walk; ranging over a map that the loop does not write.
  Conditions: none. (My own text.)
-/
import Derived.Test.YtpenejigebkkmaaTma
namespace Go.Proofs.Ytpenejigebkkmaa
open Go.RowKit
set_option linter.unusedVariables false
set_option linter.unusedSimpArgs false

section
variable {P : Program} {ops : Array Oper} {rest : List Oper} {o : Oper} {a : Go.Act} {Q : Exit → Go.Act → World → Prop} {w : World}
theorem wpList_ran {v : Value} {w' : World} (hgd : o.guard = none) (hr : (execOp a.eval o).run P w = .ok (.value v) w') (h : wpList P ops Q rest (a.put o.dst v) w') : wpList P ops Q (o :: rest) a w :=
  wpList_plain hgd fun K hK => by
    unfold Oper.wp
    rw [hr, Oper.upon_value]
    exact hK _ _ h
theorem wpList_skipped {w' : World} (hgd : o.guard = none) (hr : (execOp a.eval o).run P w = .ok .skip w') (h : wpList P ops Q rest (a.put o.dst undef) w') : wpList P ops Q (o :: rest) a w :=
  wpList_plain hgd fun K hK => by
    unfold Oper.wp
    rw [hr, Oper.upon_skip]
    exact hK _ _ h
theorem exec_mlook {T K E : TypeId} {q : IntKind} {m x : Operand} {ok : Bool} (ho : o.op = .lookup T m x ok) (hT : P.underlying T = some (.map K E)) (hK : P.underlying K = some (.int q)) {g : Nat} {l : List Ent} {c : Nat} (hm : a.eval m = .map (some g)) {k : Int} (hx : a.eval x = .int .i64 k)
    (hg : w.heap[g]? = some (.map (l.map entM).toArray c)) {z : Value} (hz : ∀ w : World, (zeroValue E).run P w = .ok z w) : (execOp a.eval o).run P w = .ok (.value (if ok then .tuple #[(mget l k).getD z, .bool (mget l k).isSome] else (mget l k).getD z)) w := by
  have hr := run_mlook (P := P) hT hK hg hz k ok
  unfold execOp
  rw [ho]
  simp only [hm, hx, Sem.run_bind, hr, Result.andThen_ok]
  rfl
theorem wpList_mlook (hgd : o.guard = none) (T K E : TypeId) {q : IntKind} (m x : Operand) (ho : o.op = .lookup T m x true) (hT : P.underlying T = some (.map K E)) (hK : P.underlying K = some (.int q)) (g : Nat) (l : List Ent) (c : Nat) (hm : a.eval m = .map (some g)) (k : Int) (hx : a.eval x = .int .i64 k)
    (hg : w.heap[g]? = some (.map (l.map entM).toArray c)) (z : Value) (hz : ∀ w : World, (zeroValue E).run P w = .ok z w) (h : wpList P ops Q rest (a.put o.dst (.tuple #[(mget l k).getD z, .bool (mget l k).isSome])) w) : wpList P ops Q (o :: rest) a w :=
  wpList_ran hgd (exec_mlook ho hT hK hm hx hg hz) h
theorem wpList_mlook1 (hgd : o.guard = none) (T K E : TypeId) {q : IntKind} (m x : Operand) (ho : o.op = .lookup T m x false) (hT : P.underlying T = some (.map K E)) (hK : P.underlying K = some (.int q)) (g : Nat) (l : List Ent) (c : Nat) (hm : a.eval m = .map (some g)) (k : Int) (hx : a.eval x = .int .i64 k)
    (hg : w.heap[g]? = some (.map (l.map entM).toArray c)) (z : Value) (hz : ∀ w : World, (zeroValue E).run P w = .ok z w) (h : wpList P ops Q rest (a.put o.dst ((mget l k).getD z)) w) : wpList P ops Q (o :: rest) a w :=
  wpList_ran hgd (exec_mlook ho hT hK hm hx hg hz) h
theorem exec_mset {T K E : TypeId} {q : IntKind} {m x y : Operand} (ho : o.op = .mapUpdate T m x y) (hT : P.underlying T = some (.map K E)) (hK : P.underlying K = some (.int q)) {g : Nat} {l : List Ent} {c : Nat} (hm : a.eval m = .map (some g)) {k : Int} (hx : a.eval x = .int .i64 k)
    {v : Value} (hv : a.eval y = v) (hg : w.heap[g]? = some (.map (l.map entM).toArray c)) : (execOp a.eval o).run P w = .ok .skip (World.putO w g (.map ((mset l k v c).map entM).toArray (mclk l k c))) := by
  have hr := run_mset (P := P) hT hK hg k v
  unfold execOp
  rw [ho]
  simp only [hm, hx, hv, Sem.run_bind, hr, Result.andThen_ok]
  rfl
theorem wpList_mset (hgd : o.guard = none) (T K E : TypeId) {q : IntKind} (m x y : Operand) (ho : o.op = .mapUpdate T m x y) (hT : P.underlying T = some (.map K E)) (hK : P.underlying K = some (.int q)) (g : Nat) (l : List Ent) (c : Nat) (hm : a.eval m = .map (some g)) (k : Int) (hx : a.eval x = .int .i64 k)
    (v : Value) (hv : a.eval y = v) (hg : w.heap[g]? = some (.map (l.map entM).toArray c)) (h : wpList P ops Q rest (a.put o.dst undef) (World.putO w g (.map ((mset l k v c).map entM).toArray (mclk l k c)))) : wpList P ops Q (o :: rest) a w :=
  wpList_skipped hgd (exec_mset ho hT hK hm hx hv hg) h
theorem exec_mdel {T K E X : TypeId} {q : IntKind} {m x : Operand} (ho : o.op = .call { callee := .builtin .delete, args := #[m, x], argTypes := #[T, X] }) (hT : P.underlying T = some (.map K E)) (hK : P.underlying K = some (.int q)) {g : Nat} {l : List Ent} {c : Nat} (hm : a.eval m = .map (some g)) {k : Int} (hx : a.eval x = .int .i64 k)
    (hg : w.heap[g]? = some (.map (l.map entM).toArray c)) : (execOp a.eval o).run P w = .ok (.value (.tuple #[])) (World.putO w g (.map ((mdel l k).map entM).toArray c)) := by
  have hr := run_mdel (P := P) hT hK hg k X o.type
  unfold execOp
  simp only [ho, resolve, invoke, builtin, Sem.run_bind, Sem.run_pure, Result.andThen_ok, List.map_toArray, List.map_cons, List.map_nil, hm, hx, hr]
theorem wpList_mdel (hgd : o.guard = none) (T K E X : TypeId) {q : IntKind} (m x : Operand) (ho : o.op = .call { callee := .builtin .delete, args := #[m, x], argTypes := #[T, X] }) (hT : P.underlying T = some (.map K E)) (hK : P.underlying K = some (.int q)) (g : Nat) (l : List Ent) (c : Nat) (hm : a.eval m = .map (some g)) (k : Int) (hx : a.eval x = .int .i64 k)
    (hg : w.heap[g]? = some (.map (l.map entM).toArray c)) (h : wpList P ops Q rest (a.put o.dst (.tuple #[])) (World.putO w g (.map ((mdel l k).map entM).toArray c))) : wpList P ops Q (o :: rest) a w :=
  wpList_ran hgd (exec_mdel ho hT hK hm hx hg) h

/-! ### Ranging -/
theorem wpList_mrange (hgd : o.guard = none) (T K E : TypeId) (m : Operand) (ho : o.op = .range T m) (hT : P.underlying T = some (.map K E)) (g : Nat) (l : List Ent) (c : Nat) (hm : a.eval m = .map (some g))
    (hg : w.heap[g]? = some (.map (l.map entM).toArray c)) (h : wpList P ops Q rest (a.put o.dst (.pointer (some ⟨w.heap.size, 0, none⟩))) (w.alloc (.mapIter (some g) c #[] c))) : wpList P ops Q (o :: rest) a w :=
  wpList_ran hgd (by
    have hr := run_range_map (P := P) w T K E g _ c hT hg
    unfold execOp
    rw [ho]
    simp only [hm, Sem.run_bind, hr, Result.andThen_ok]
    rfl) h
/-- The entries that have not come yet. -/
def leftE (l : List Ent) (seen : Array Nat) : List Ent := l.filter fun e => !seen.contains e.2.2
theorem run_mnext {it g since c0 c : Nat} {seen : Array Nat} {l : List Ent} (hi : w.heap[it]? = some (.mapIter (some g) since seen c0)) (hg : w.heap[g]? = some (.map (l.map entM).toArray c)) (hold : ∀ e ∈ l, e.2.2 < since) (hsc : since ≤ c0) (ty : TypeId) :
    (leftE l seen = [] ∧ (Instr.next (.pointer (some ⟨it, 0, none⟩)) false ty).run P w = .ok (.tuple #[.bool false]) w) ∨
    ∃ e ∈ leftE l seen, ∃ w' : World, (Instr.next (.pointer (some ⟨it, 0, none⟩)) false ty).run P w = .ok (.tuple #[.bool true, .int .i64 e.1, e.2.1]) w' ∧ w'.heap[it]? = some (.mapIter (some g) since (seen.push e.2.2) c) ∧ Keeps (fun k => k = it) w w' := by
  have ht := next_test_false seen (l.map entM).toArray since c0 (fun x hx => by
    rw [List.toList_toArray] at hx
    obtain ⟨e, he, rfl⟩ := List.mem_map.1 hx
    exact hold e he) hsc
  have hf : ((l.map entM).toArray.filter fun e => !seen.contains e.born) = ((leftE l seen).map entM).toArray := by
    unfold leftE
    rw [List.filter_toArray, List.filter_map]
    rfl
  have hlo : ∀ e ∈ leftE l seen, e.2.2 < since := fun e he => hold e (List.mem_filter.1 he).1
  generalize leftE l seen = L at hf hlo
  have e1 : ((L.map entM).toArray.filter fun x => decide (x.born < since)) = (L.map entM).toArray := by
    rw [List.filter_toArray]
    congr 1
    rw [List.filter_eq_self]
    intro x hx
    obtain ⟨e, he, rfl⟩ := List.mem_map.1 hx
    exact decide_eq_true (hlo e he)
  have e2 : ((L.map entM).toArray.filter fun x => decide (x.born ≥ since)) = #[] := by
    rw [List.filter_toArray]
    have : (L.map entM).filter (fun x => decide (x.born ≥ since)) = [] := by
      rw [List.filter_eq_nil_iff]
      intro x hx
      obtain ⟨e, he, rfl⟩ := List.mem_map.1 hx
      have := hlo e he
      simp [entM]
      omega
    rw [this]
  have hlt := lt_of_obj hi
  simp only [Instr.next, getObj, Sem.run_bind, Sem.run, hi, hg, Result.andThen, ht, Bool.false_eq_true, if_false, hf, e1, e2, Array.append_empty]
  cases L with
  | nil =>
    left
    refine ⟨rfl, ?_⟩
    simp [choose, Sem.run, Question.forced]
  | cons e0 L =>
    right
    have hne : ((e0 :: L).map entM).toArray.isEmpty = false := by simp [Array.isEmpty]
    simp only [hne, Bool.false_eq_true, if_false, Array.empty_append, Array.size_map]
    have hsz : ((e0 :: L).map entM).toArray.size = (e0 :: L).length := by simp
    rw [hsz]
    have hch : ∃ (j : Nat) (w1 : World), j < (e0 :: L).length ∧ w1.heap = w.heap ∧ Keeps (fun _ => False) w w1 ∧ (choose (Question.mapNext (e0 :: L).length)).run P w = .ok j w1 := by
      by_cases hq : (e0 :: L).length ≤ 1
      · exact ⟨0, w, by simp, rfl, Keeps.refl _ _, by simp only [choose, Sem.run, Question.forced, decide_eq_true hq, if_true]⟩
      · exact ⟨_, w.drew, Nat.mod_lt _ (by simp), rfl, ⟨rfl, rfl, rfl, Nat.le_refl _, fun _ _ _ => rfl⟩, by
          simp only [choose, Sem.run, Question.forced, decide_eq_true_eq, hq, if_false, Question.cut]
          rfl⟩
    obtain ⟨j, w1, hj, hh, hk, hrun⟩ := hch
    obtain ⟨e, he⟩ : ∃ e, (e0 :: L)[j]? = some e := ⟨_, List.getElem?_eq_getElem hj⟩
    refine ⟨e, List.mem_of_getElem? he, World.putO w1 it (.mapIter (some g) since (seen.push e.2.2) c), ?_, putO_at (o := .mapIter (some g) since seen c0) (by rw [hh]; exact hi), ?_⟩
    · have hget : (((e0 :: L).map entM).toArray.map some)[j]? = some (some (entM e)) := by
        rw [List.map_toArray, List.getElem?_toArray, List.getElem?_map, List.getElem?_map, he]; rfl
      have hi1 : w1.heap[it]? = some (.mapIter (some g) since seen c0) := by rw [hh]; exact hi
      have hset : ∀ o', (setObj it o').run P w1 = .ok () (World.putO w1 it o') := fun o' => by simp [setObj, Sem.run, hi1, World.putO]
      simp only [hrun, hget, Sem.run_bind, hset, Result.andThen]
      rfl
    · exact (hk.mono (fun _ h => h.elim)).trans (putO_keeps w1 it _) (fun i hi => .inl hi)
theorem wpList_mnext (hgd : o.guard = none) (x : Operand) (ho : o.op = .next x false) (it g since c0 c : Nat) (seen : Array Nat) (l : List Ent) (hx : a.eval x = .pointer (some ⟨it, 0, none⟩)) (hi : w.heap[it]? = some (.mapIter (some g) since seen c0)) (hg : w.heap[g]? = some (.map (l.map entM).toArray c)) (hold : ∀ e ∈ l, e.2.2 < since) (hsc : since ≤ c0)
    (hDone : leftE l seen = [] → wpList P ops Q rest (a.put o.dst (.tuple #[.bool false])) w)
    (hMore : ∀ (e : Ent) (w' : World), e ∈ leftE l seen → w'.heap[it]? = some (.mapIter (some g) since (seen.push e.2.2) c) → Keeps (fun k => k = it) w w' → wpList P ops Q rest (a.put o.dst (.tuple #[.bool true, .int .i64 e.1, e.2.1])) w') : wpList P ops Q (o :: rest) a w := by
  rcases run_mnext (P := P) hi hg hold hsc o.type with ⟨h1, h2⟩ | ⟨e, h1, w', h2, h3, h4⟩
  · refine wpList_ran hgd ?_ (hDone h1)
    unfold execOp
    rw [ho]
    simp only [hx, Sem.run_bind, h2, Result.andThen_ok]
    rfl
  · refine wpList_ran hgd ?_ (hMore e w' h1 h3 h4)
    unfold execOp
    rw [ho]
    simp only [hx, Sem.run_bind, h2, Result.andThen_ok]
    rfl
theorem wpList_mentry (hgd : o.guard = none) (x : Operand) (ho : o.op = .entry x) (it g since c : Nat) (seen : Array Nat) (l : List Ent) (e : Ent) (hx : a.eval x = .pointer (some ⟨it, 0, none⟩)) (hi : w.heap[it]? = some (.mapIter (some g) since (seen.push e.2.2) c)) (hg : w.heap[g]? = some (.map (l.map entM).toArray c)) (he : e ∈ l) (hn : (l.map (·.2.2)).Nodup)
    (h : wpList P ops Q rest (a.put o.dst (.tuple #[.int .i64 e.1, e.2.1])) w) : wpList P ops Q (o :: rest) a w := by
  refine wpList_ran hgd ?_ h
  have hf : (l.map entM).toArray.find? (·.born == (entM e).born) = some (entM e) := by
    rw [← Array.find?_toList]
    refine find_born (entM e) _ ?_ ?_
    · rw [List.toList_toArray, List.map_map]; exact hn
    · rw [List.toList_toArray]; exact List.mem_map_of_mem he
  unfold execOp
  rw [ho]
  simp only [hx, Instr.entry, getObj, Sem.run_bind, Sem.run, hi, hg, Result.andThen, Array.back?_push, bne_self_eq_false, Bool.false_eq_true, if_false]
  rw [show (fun x : MapEntry => x.born == e.2.2) = (fun x => x.born == (entM e).born) from rfl, hf]
  rfl
end
theorem leftE_push {l : List Ent} {seen : Array Nat} {e : Ent} (hl : (l.map (·.2.2)).Nodup) (he : e ∈ leftE l seen) : (leftE l (seen.push e.2.2)).length < (leftE l seen).length := by
  have h1 := List.mem_filter.1 he
  unfold leftE
  refine filter_lt (fun x : Ent => !seen.contains x.2.2) (fun x => !(seen.push e.2.2).contains x.2.2) (fun x hx => ?_) e h1.2 ?_ l h1.1
  · rw [contains_push] at hx
    cases hc : seen.contains x.2.2 with
    | false => rfl
    | true => rw [hc, Bool.true_or] at hx; exact absurd hx (by decide)
  · rw [contains_push, beq_self_eq_true, Bool.or_true]; rfl
theorem leftE_mem {l : List Ent} {seen : Array Nat} {e : Ent} (he : e ∈ leftE l seen) : e ∈ l := (List.mem_filter.1 he).1
/-- An iterator as a thing. -/
def Itr (it g since : Nat) (seen : Array Nat) (c0 : Nat) : Res := fun w F => w.heap[it]? = some (.mapIter (some g) since seen c0) ∧ F it
instance fr_itr (it g since : Nat) (seen : Array Nat) (c0 : Nat) : Fr (Itr it g since seen c0) := ⟨fun ⟨h, hf⟩ hk => ⟨(hk it hf (lt_of_obj h)).trans h, hf⟩, fun ⟨h, hf⟩ hm => ⟨h, hm it hf (lt_of_obj h)⟩⟩
section
variable {B : Nat} {w wr w' : World} {Y : Res} {it g since c0 c : Nat} {seen : Array Nat}
theorem Has.itr (h : Has B w wr (Star (Itr it g since seen c0) Y)) : wr.heap[it]? = some (.mapIter (some g) since seen c0) := by
  obtain ⟨F, ⟨F1, F2, h1, _⟩, _⟩ := h.own
  exact h1.1
theorem Has.newitr [Fr Y] (h : Has B w wr Y) (g c : Nat) : Has B w (wr.alloc (.mapIter (some g) c #[] c)) (Star (Itr wr.heap.size g c #[] c) Y) :=
  h.add ((Below.refl _ _).alloc (Nat.le_refl _) _) ⟨heap_alloc_new wr _, Nat.le_refl _⟩
theorem Has.stepitr [Fr Y] (h : Has B w wr (Star (Itr it g since seen c0) Y)) {seen' : Array Nat} (hi : w'.heap[it]? = some (.mapIter (some g) since seen' c)) (hk : Keeps (fun k => k = it) wr w') : Has B w w' (Star (Itr it g since seen' c) Y) :=
  h.turn fun F ⟨h1, h2⟩ => ⟨⟨hi, .inl h2⟩, hk.mono fun k e => by subst e; exact h2⟩
theorem Has.iseen (h : Has B w wr (Star (Itr it g since seen c0) Y)) : wr.iterSeen it = seen := by
  unfold World.iterSeen
  rw [h.itr]
end
end Go.Proofs.Ytpenejigebkkmaa
