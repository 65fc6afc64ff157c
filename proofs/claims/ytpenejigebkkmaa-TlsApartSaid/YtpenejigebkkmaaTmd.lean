/-
  Layer 17: entries by their structures; the walker's laws for look-ups and steps; tls.up, Gen.
  Conditions: none. (My own text.)
-/
import Derived.Test.YtpenejigebkkmaaTmc
namespace Go.Proofs.Ytpenejigebkkmaa
open Go.RowKit Spm
set_option linter.unusedVariables false
set_option linter.unusedSimpArgs false

section
variable {α : Type}
def efind (key : α → Int) : List α → Int → Option α
  | [], _ => none
  | e :: l, k => if k = key e then some e else efind key l k
def eset (key : α → Int) (st : α → Nat) (mk : Nat → α) (c : Nat) : List α → Int → List α
  | [], _ => [mk c]
  | e :: l, k => if k = key e then mk (st e) :: l else e :: eset key st mk c l k
def edel (key : α → Int) : List α → Int → List α
  | [], _ => []
  | e :: l, k => if k = key e then l else e :: edel key l k
theorem mget_efind {ent : α → Ent} {key : α → Int} (hk : ∀ e, (ent e).1 = key e) (k : Int) : ∀ l : List α, mget (l.map ent) k = (efind key l k).map fun e => (ent e).2.1
  | [] => rfl
  | e :: l => by
    rw [List.map_cons]
    unfold mget efind
    rw [hk]
    by_cases h : k = key e
    · rw [if_pos h, if_pos h]; rfl
    · rw [if_neg h, if_neg h]; exact mget_efind hk k l
theorem mset_eset {ent : α → Ent} {key : α → Int} {st : α → Nat} (hk : ∀ e, (ent e).1 = key e) (hs : ∀ e, (ent e).2.2 = st e) {k : Int} {v : Value} {mk : Nat → α} (hm : ∀ b, ent (mk b) = (k, v, b)) (c : Nat) : ∀ l : List α, mset (l.map ent) k v c = (eset key st mk c l k).map ent
  | [] => by
    show [(k, v, c)] = [ent (mk c)]
    rw [hm]
  | e :: l => by
    rw [List.map_cons]
    unfold mset eset
    rw [hk, hs]
    by_cases h : k = key e
    · rw [if_pos h, if_pos h, List.map_cons, hm]
    · rw [if_neg h, if_neg h, List.map_cons, mset_eset hk hs hm c l]
theorem mdel_edel {ent : α → Ent} {key : α → Int} (hk : ∀ e, (ent e).1 = key e) (k : Int) : ∀ l : List α, mdel (l.map ent) k = (edel key l k).map ent
  | [] => rfl
  | e :: l => by
    rw [List.map_cons]
    unfold mdel edel
    rw [hk]
    by_cases h : k = key e
    · rw [if_pos h, if_pos h]
    · rw [if_neg h, if_neg h, List.map_cons, mdel_edel hk k l]
theorem efind_split {key : α → Int} {k : Int} {x : α} : ∀ {l : List α}, efind key l k = some x → ∃ l1 l2, l = l1 ++ x :: l2 ∧ edel key l k = l1 ++ l2 ∧ key x = k ∧ (∀ (st : α → Nat) (mk : Nat → α) (c : Nat), eset key st mk c l k = l1 ++ mk (st x) :: l2)
  | [], h => by cases h
  | e :: l, h => by
    unfold efind at h
    by_cases hk : k = key e
    · rw [if_pos hk] at h
      obtain rfl := Option.some.inj h
      exact ⟨[], l, rfl, by unfold edel; rw [if_pos hk]; rfl, hk.symm, fun st mk c => by unfold eset; rw [if_pos hk]; rfl⟩
    · rw [if_neg hk] at h
      obtain ⟨l1, l2, h1, h2, h3, h4⟩ := efind_split h
      exact ⟨e :: l1, l2, by rw [h1]; rfl, by unfold edel; rw [if_neg hk, h2]; rfl, h3, fun st mk c => by unfold eset; rw [if_neg hk, h4]; rfl⟩
theorem eset_new {key : α → Int} {k : Int} : ∀ {l : List α}, efind key l k = none → ∀ (st : α → Nat) (mk : Nat → α) (c : Nat), eset key st mk c l k = l ++ [mk c]
  | [], _, st, mk, c => rfl
  | e :: l, h, st, mk, c => by
    unfold efind at h
    by_cases hk : k = key e
    · rw [if_pos hk] at h; cases h
    · rw [if_neg hk] at h
      unfold eset
      rw [if_neg hk, eset_new h]; rfl
theorem left_perm (st : α → Nat) {x : α} : ∀ {l : List α}, (l.map st).Nodup → x ∈ l → l.Perm (x :: l.filter fun y => !(st y == st x))
  | [], _, h => by simp at h
  | y :: l, hn, hx => by
    rw [List.map_cons, List.nodup_cons] at hn
    rcases List.mem_cons.1 hx with rfl | h1
    · rw [List.filter_cons, beq_self_eq_true]
      simp only [Bool.not_true, Bool.false_eq_true, if_false]
      have : l.filter (fun y => !(st y == st x)) = l := by
        rw [List.filter_eq_self]
        intro z hz
        cases hc : st z == st x with
        | false => rfl
        | true => exact absurd (by rw [← beq_iff_eq.1 hc]; exact List.mem_map_of_mem hz) hn.1
      rw [this]
    · have hne : (st y == st x) = false := beq_eq_false_iff_ne.2 (fun e => hn.1 (by rw [e]; exact List.mem_map_of_mem h1))
      rw [List.filter_cons, hne]
      simp only [Bool.not_false, if_true]
      exact ((left_perm st hn.2 h1).cons y).trans (List.Perm.swap x y _)
/-- What has not come yet. -/
def leftA (st : α → Nat) (l : List α) (seen : Array Nat) : List α := l.filter fun e => !seen.contains (st e)
theorem leftA_push {st : α → Nat} {l : List α} (hn : (l.map st).Nodup) {seen : Array Nat} {x : α} (hx : x ∈ leftA st l seen) : (leftA st l seen).Perm (x :: leftA st l (seen.push (st x))) := by
  have h1 : ((leftA st l seen).map st).Nodup := hn.sublist ((List.filter_sublist ..).map _)
  have h2 := left_perm st h1 hx
  have h3 : (leftA st l seen).filter (fun y => !(st y == st x)) = leftA st l (seen.push (st x)) := by
    unfold leftA
    rw [List.filter_filter]
    congr 1
    funext y
    rw [contains_push]
    cases seen.contains (st y) <;> cases (st y == st x) <;> rfl
  rw [h3] at h2
  exact h2
theorem leftA_none (st : α → Nat) (l : List α) : leftA st l #[] = l := by
  unfold leftA
  rw [List.filter_eq_self]
  intro x hx
  simp
theorem leftE_A {ent : α → Ent} {st : α → Nat} (hs : ∀ e, (ent e).2.2 = st e) (l : List α) (seen : Array Nat) : leftE (l.map ent) seen = (leftA st l seen).map ent := by
  unfold leftE leftA
  rw [List.filter_map]
  congr 2
  funext e
  simp [hs]
end

section
variable {P : Program} {ops : Array Oper} {rest : List Oper} {o : Oper} {a : Go.Act} {Q : Exit → Go.Act → World → Prop} {w : World}
theorem wpList_mlookR (hgd : o.guard = none) (T K E : TypeId) {q : IntKind} (m x : Operand) (ho : o.op = .lookup T m x true) (hT : P.underlying T = some (.map K E)) (hK : P.underlying K = some (.int q)) (g : Nat) (l : List Ent) (c : Nat) (hm : a.eval m = .map (some g)) (k : Int) (hx : a.eval x = .int .i64 k)
    (hg : w.heap[g]? = some (.map (l.map entM).toArray c)) (z : Value) (hz : ∀ w : World, (zeroValue E).run P w = .ok z w) (v : Value) (b : Bool) (hv : (mget l k).getD z = v) (hb : (mget l k).isSome = b) (h : wpList P ops Q rest (a.put o.dst (.tuple #[v, .bool b])) w) : wpList P ops Q (o :: rest) a w := by
  subst hv hb
  exact wpList_mlook hgd T K E m x ho hT hK g l c hm k hx hg z hz h
theorem wpList_mlookV (hgd : o.guard = none) (T K E : TypeId) {q : IntKind} (m x : Operand) (ho : o.op = .lookup T m x false) (hT : P.underlying T = some (.map K E)) (hK : P.underlying K = some (.int q)) (g : Nat) (l : List Ent) (c : Nat) (hm : a.eval m = .map (some g)) (k : Int) (hx : a.eval x = .int .i64 k)
    (hg : w.heap[g]? = some (.map (l.map entM).toArray c)) (z : Value) (hz : ∀ w : World, (zeroValue E).run P w = .ok z w) (v : Value) (hv : (mget l k).getD z = v) (h : wpList P ops Q rest (a.put o.dst v) w) : wpList P ops Q (o :: rest) a w := by
  subst hv
  exact wpList_mlook1 hgd T K E m x ho hT hK g l c hm k hx hg z hz h
theorem run_mnextA {α : Type} {ent : α → Ent} {key : α → Int} {val : α → Value} {st : α → Nat} (he : ∀ e, ent e = (key e, val e, st e)) {it g since c0 c : Nat} {seen : Array Nat} {l : List α} (hi : w.heap[it]? = some (.mapIter (some g) since seen c0)) (hg : w.heap[g]? = some (.map ((l.map ent).map entM).toArray c)) (hold : ∀ e ∈ l.map ent, e.2.2 < since) (hsc : since ≤ c0) :
    (leftA st l seen = [] ∧ (Instr.next (.pointer (some ⟨it, 0, none⟩)) false 0).run P w = .ok (.tuple #[.bool false]) w) ∨
    ∃ y ∈ leftA st l seen, ∃ w' : World, (Instr.next (.pointer (some ⟨it, 0, none⟩)) false 0).run P w = .ok (.tuple #[.bool true, .int .i64 (key y), val y]) w' ∧ w'.heap[it]? = some (.mapIter (some g) since (seen.push (st y)) c) ∧ Keeps (fun k => k = it) w w' := by
  have hl := leftE_A (ent := ent) (st := st) (fun e => by rw [he]) l seen
  rcases run_mnext (P := P) hi hg hold hsc 0 with ⟨h1, h2⟩ | ⟨e, h1, w', h2, h3, h4⟩
  · rw [hl] at h1
    exact .inl ⟨List.map_eq_nil_iff.1 h1, h2⟩
  · rw [hl] at h1
    obtain ⟨y, hy, rfl⟩ := List.mem_map.1 h1
    rw [he] at h2 h3
    exact .inr ⟨y, hy, w', h2, h3, h4⟩
theorem wpList_next0 {v : Value} {w' : World} (hgd : o.guard = none) (x : Operand) (ho : o.op = .next x false) (it : Nat) (hx : a.eval x = .pointer (some ⟨it, 0, none⟩)) (hr : (Instr.next (.pointer (some ⟨it, 0, none⟩)) false 0).run P w = .ok v w') (h : wpList P ops Q rest (a.put o.dst v) w') : wpList P ops Q (o :: rest) a w :=
  wpList_ran hgd (by
    have hr2 : (Instr.next (.pointer (some ⟨it, 0, none⟩)) false o.type).run P w = .ok v w' := hr
    unfold execOp
    rw [ho]
    simp only [hx, Sem.run_bind, hr2, Result.andThen_ok]
    rfl) h
theorem wpList_mentryA {α : Type} {ent : α → Ent} {key : α → Int} {val : α → Value} {st : α → Nat} (he : ∀ e, ent e = (key e, val e, st e)) (hgd : o.guard = none) (x : Operand) (ho : o.op = .entry x) (it g since c : Nat) (seen : Array Nat) (l : List α) (y : α) (hx : a.eval x = .pointer (some ⟨it, 0, none⟩)) (hi : w.heap[it]? = some (.mapIter (some g) since (seen.push (st y)) c)) (hg : w.heap[g]? = some (.map ((l.map ent).map entM).toArray c)) (hy : y ∈ l) (hn : ((l.map ent).map (·.2.2)).Nodup)
    (h : wpList P ops Q rest (a.put o.dst (.tuple #[.int .i64 (key y), val y])) w) : wpList P ops Q (o :: rest) a w := by
  have e1 := he y
  refine wpList_mentry hgd x ho it g since c seen (l.map ent) (ent y) hx ?_ hg (List.mem_map_of_mem hy) hn ?_
  · rw [e1]; exact hi
  · rw [e1]; exact h
end

/-! ### up, Gen -/
def upT (n : Int) : Int := (n + 7) / 8 * 8
set_option maxRecDepth 100000 in
set_option maxHeartbeats 4000000 in
theorem tup_any (n : Int) (h0 : 0 ≤ n) (h1 : n ≤ 1099511627776) (w : World) : Calls Try.prog 32 #[.int .i64 n] w fun e w' => e = .returned (.int .i64 (upT n)) ∧ w = w' := by
  obtain ⟨m, rfl⟩ : ∃ m : Nat, n = m := ⟨n.toNat, by omega⟩
  have e1 : IntKind.i64.wrap ((m : Int) + 7) = (m : Int) + 7 := by rw [IntKind.wrap_i64]; omega
  have e2 : ((m : Int) + 7).tdiv 8 = ((m : Int) + 7) / 8 := Int.tdiv_eq_ediv_of_nonneg (by omega)
  have HU : Hid (upT m = ((m : Int) + 7) / 8 * 8) := Lib.hid rfl
  go_enter Try.func32, Try.ntmps32
  go_wp2
  go_ret
  refine ⟨?_, rfl⟩
  rw [HU.out]
  first
    | rfl
    | (show Ending.returned (.int .i64 _) = _
       congr 2
       simp only [wrap64]
       omega)
def gget (l : List GnE) (k : Int) : Int := ((efind GnE.k l k).map GnE.n).getD 0
theorem gget_m (l : List GnE) (k : Int) : (mget (l.map GnE.ent) k).getD (.int .i64 0) = .int .i64 (gget l k) := by
  rw [mget_efind (key := GnE.k) (fun _ => rfl)]
  unfold gget
  cases efind GnE.k l k <;> rfl
set_option maxRecDepth 100000 in
set_option maxHeartbeats 4000000 in
theorem tgen_any {B : Nat} {w wr : World} {Y : Res} [hY : Fr Y] {s : Nat} {t : Ts} (h : Has B w wr (Tl s t Y)) (k : Int) : Calls Try.prog 16 #[.pointer (some ⟨s, 0, none⟩), .int .i64 k] wr fun e w' => e = .returned (.int .i64 (gget t.gl k)) ∧ w' = wr := by
  have M0 := Lib.hid h
  have s1 : wr.cell? ⟨s, 1, none⟩ = some (.map (some t.gg)) := M0.out.cellat s 1 rfl
  clear h
  go_enter Try.func16, Try.ntmps16
  go_wp2_with (first | (refine wpList_mlookV rfl 63 3 3 _ _ rfl Try.underlying63 Try.underlying3 t.gg _ _ rfl k rfl (M0.out.getm t.gg) (.int .i64 0) z_int _ (gget_m t.gl k) ?_))
  go_ret
  exact ⟨rfl, rfl⟩
end Go.Proofs.Ytpenejigebkkmaa
