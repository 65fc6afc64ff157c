/-
  Layer 5: set, Write, Poke, SetWord, PokeWord of the program.
  Conditions: none. (My own text.)
-/
import Derived.Test.YtpononkgeeahdaaSpg
import Derived.Shelf.Spec.SlicesInsert
namespace Go.Proofs.Ytpononkgeeahdaa
open Go.RowKit Spm
set_option linter.unusedVariables false
set_option linter.unusedSimpArgs false
open Go.Proofs

/-- Bytes written over a region's. -/
def setQ (q : RowP) (o : Nat) (b : List UInt8) : RowP := ({ q.1 with bs := over q.1.bs o b }, q.2)
theorem over_len (l b : List UInt8) (o : Nat) (h : o + b.length ≤ l.length) : (over l o b).length = l.length := by unfold over; simp; omega
theorem setQ_cells (q : RowP) (o : Nat) (b : List UInt8) (h : o + b.length ≤ q.1.bs.length) : rgC (setQ q o b) = rgC q := by
  unfold rgC setQ
  simp only [over_len _ _ _ h]
theorem flatMap_modify {α β : Type} (f : α → List β) (g : α → α) : ∀ (l : List α) (k : Nat), (∀ x, l[k]? = some x → f (g x) = f x) → (l.modify k g).flatMap f = l.flatMap f
  | [], k, _ => by simp
  | x :: l, 0, h => by simp [h x rfl]
  | x :: l, k + 1, h => by simp [flatMap_modify f g l k (fun y hy => h y (by simpa using hy))]
theorem map_modify_same {α β : Type} (f : α → β) (g : α → α) (h : ∀ x, f (g x) = f x) : ∀ (l : List α) (k : Nat), (l.modify k g).map f = l.map f
  | [], k => by simp
  | x :: l, 0 => by simp [h x]
  | x :: l, k + 1 => by simp [map_modify_same f g h l k]
theorem map_modify {α β : Type} (f : α → β) (g : α → α) (g' : β → β) (h : ∀ x, f (g x) = g' (f x)) : ∀ (l : List α) (k : Nat), (l.modify k g).map f = (l.map f).modify k g'
  | [], k => by simp
  | x :: l, 0 => by simp [h x]
  | x :: l, k + 1 => by simp [map_modify f g g' h l k]
theorem foot_modify (a : Nat) (v : Value) (Q : List RowP) (k o : Nat) (b : List UInt8) : foot a v (Q.modify k (setQ · o b)) = foot a v Q := by
  unfold foot
  rw [map_modify_same (fun q : RowP => q.2.1) (setQ · o b) (fun _ => rfl)]
theorem setRow_size (w : World) (g : Nat) (cs : Array Value) : (w.setRow g cs).heap.size = w.heap.size := by simp [World.setRow]
theorem keeps_setRow (F : Nat → Prop) (w : World) (g : Nat) (cs : Array Value) (h : F g) : Keeps F w (w.setRow g cs) :=
  ⟨rfl, rfl, rfl, by rw [setRow_size]; exact Nat.le_refl _, fun k _ hn => setRow_other w g k cs (fun e => hn (e ▸ h))⟩
theorem mem_modify {α : Type} {g : α → α} : ∀ {l : List α} {k : Nat} {x : α}, x ∈ l.modify k g → (∃ y, l[k]? = some y ∧ x = g y) ∨ ∃ i, i ≠ k ∧ l[i]? = some x := by
  intro l k x hx
  obtain ⟨i, hi⟩ := List.mem_iff_getElem?.1 hx
  rw [List.getElem?_modify] at hi
  by_cases hik : k = i
  · subst hik
    cases hl : l[k]? with
    | none => rw [hl] at hi; simp at hi
    | some y => rw [hl] at hi; exact .inl ⟨y, rfl, by simpa using hi.symm⟩
  · refine .inr ⟨i, fun h => hik h.symm, ?_⟩
    cases hl : l[i]? with
    | none => rw [hl] at hi; simp at hi
    | some y => rw [hl] at hi; simpa [hik] using hi

section
variable {ts tr : TypeId} {w : World} {a : Nat} {v : Value} {Q : List RowP}
theorem Spc.curOf (h : Spc ts tr w a v Q) {q : RowP} (hq : q ∈ Q) : ∃ cur : Array Value, w.heap[q.2.1]? = some (.cells cur 5 (0, 0)) ∧ q.1.bs.length ≤ q.2.2 ∧ q.2.2 ≤ maxLen ∧ cur.size = q.2.2 ∧ cur.toList.take q.1.bs.length = q.1.bs.map byC := by
  rcases (h.each q hq).2 with ⟨hv, hn⟩ | ⟨g, cap, cur, hv, hb, hg, hl, hm, hs, ht⟩
  · simp [byV] at hv
  · simp only [byV, Value.slice.injEq, Option.some.injEq, Addr.mk.injEq] at hv
    obtain ⟨⟨hg1, _⟩, _, hc⟩ := hv
    subst hg1 hc
    exact ⟨cur, hg, hl, hm, by simpa using hs, by simpa using ht⟩
theorem nodup_ne {a : Nat} {v : Value} {Q : List RowP} (h : (foot a v Q).Nodup) {i j : Nat} {p q : RowP} (hp : Q[i]? = some p) (hq : Q[j]? = some q) (hij : i ≠ j) : p.2.1 ≠ q.2.1 := by
  unfold foot at h
  have h1 := (List.nodup_append.1 (List.nodup_cons.1 h).2).2.1
  intro e
  have hl : i < (Q.map (·.2.1)).length := by have := (List.getElem?_eq_some_iff.1 hp).1; simpa using this
  exact hij ((List.getElem?_inj hl h1).1 (by rw [List.getElem?_map, List.getElem?_map, hp, hq]; simp [e]))
theorem nodup_a {a : Nat} {v : Value} {Q : List RowP} (h : (foot a v Q).Nodup) {q : RowP} (hq : q ∈ Q) : a ≠ q.2.1 := by
  unfold foot at h
  intro e
  exact (List.nodup_cons.1 h).1 (List.mem_append_right _ (List.mem_map.2 ⟨q, hq, e.symm⟩))
theorem nodup_v {a : Nat} {v : Value} {Q : List RowP} (h : (foot a v Q).Nodup) {q : RowP} (hq : q ∈ Q) {g : Nat} (hv : v.ownBlock = some g) : g ≠ q.2.1 := by
  unfold foot at h
  have h1 := (List.nodup_append.1 (List.nodup_cons.1 h).2).2.2
  exact h1 g (by rw [hv]; simp) q.2.1 (List.mem_map.2 ⟨q, hq, rfl⟩)
theorem nodup_av {a : Nat} {v : Value} {Q : List RowP} (h : (foot a v Q).Nodup) {g : Nat} (hv : v.ownBlock = some g) : a ≠ g := by
  unfold foot at h
  intro e
  exact (List.nodup_cons.1 h).1 (List.mem_append_left _ (by rw [hv]; simp [e]))

theorem take_over {cur : List Value} {l b : List UInt8} {o : Nat} (h : o + b.length ≤ l.length) (hc : cur.take l.length = l.map byC) :
    (cur.take o ++ b.map byC ++ cur.drop (o + (b.map byC).length)).take (over l o b).length = (over l o b).map byC := by
  have hlen : l.length ≤ cur.length := by
    have := congrArg List.length hc
    simp at this
    omega
  rw [over_len l b o h]
  have h1 : cur.take o = (l.take o).map byC := by
    rw [← List.map_take.symm, ← hc, List.take_take, Nat.min_eq_left (by omega)]
  have h2 : (cur.drop (o + (b.map byC).length)).take (l.length - (o + b.length)) = (l.drop (o + b.length)).map byC := by
    rw [List.map_drop, ← hc, List.length_map, List.drop_take]
  have h3 : ((l.take o).map byC ++ b.map byC).length = o + b.length := by simp; omega
  rw [h1, List.take_append, List.take_of_length_le (by rw [h3]; omega), h3, h2]
  unfold over
  simp

/-- THE WRITE: a stretch of a region's bytes is written over. -/
theorem Spc.write (h : Spc ts tr w a v Q) {k : Nat} {q : RowP} (hq : Q[k]? = some q) {o : Nat} {b : List UInt8} (ho : o + b.length ≤ q.1.bs.length) {cur : Array Value}
    (hg : w.heap[q.2.1]? = some (.cells cur 5 (0, 0))) (hcs : cur.size = q.2.2) (hct : cur.toList.take q.1.bs.length = q.1.bs.map byC) :
    Spc ts tr (w.setRow q.2.1 (cur.toList.take o ++ b.map byC ++ cur.toList.drop (o + (b.map byC).length)).toArray) a v (Q.modify k (setQ · o b)) := by
  have hm := List.mem_of_getElem? hq
  have hcm := (h.bys hm).2.1
  refine ⟨?_, ?_, ?_, ?_⟩
  · exact (setRow_other w _ a _ (nodup_a h.nd hm)).trans h.box
  · rw [flatMap_modify rgC (setQ · o b) Q k (fun x hx => by rw [hq] at hx; cases hx; exact setQ_cells q o b ho), List.length_modify]
    exact owns_block h.row (fun g hv => setRow_other w _ g _ (nodup_v h.nd hm hv))
  · intro x hx
    rcases mem_modify hx with ⟨y, hy, rfl⟩ | ⟨i, hi, hxi⟩
    · rw [hq] at hy
      cases hy
      refine ⟨by simp, .inr ⟨q.2.1, q.2.2, _, rfl, Nat.zero_le _, setRow_heap w q.2.1 cur _ _ _ hg, ?_, (h.bys hm).2.2.1, ?_, ?_⟩⟩
      · show (over q.1.bs o b).length ≤ _
        rw [over_len _ _ _ ho]; exact hcm
      · simp only [List.size_toArray, List.length_append, List.length_take, List.length_drop, Array.length_toList, List.length_map, Nat.mul_one]
        omega
      · have := take_over ho hct
        simpa [setQ] using this
    · exact owns_block (h.each x (List.mem_of_getElem? hxi)) (fun g hv => by
        simp [byV, Value.ownBlock] at hv
        subst hv
        exact setRow_other w _ _ _ (nodup_ne h.nd hxi hq hi))
  · rw [foot_modify]; exact h.nd
end

def SetsE (a : Nat) (F : Nat → Prop) (r : List Rg × Int) (w : World) (e : Ending) (w' : World) : Prop := e = .returned (.int .i64 r.2) ∧ PSp w' a (fun k => F k ∨ w.heap.size ≤ k) r.1 ∧ Keeps F w w'

set_option maxRecDepth 100000 in
theorem set_arg (a : Nat) (at_ p : Int) (v : Value) (n c : Nat) (A : Option Addr) (hn : n < 1 ∨ 1048576 < n) (hm : n ≤ 9223372036854775807) (w : World) : Calls Try.prog 56 #[.pointer (some ⟨a, 0, none⟩), .int .i64 at_, .slice A n c, .int .i64 p] w fun e w' => e = .returned (.int .i64 1) ∧ w = w' := by
  rcases hn with h1 | h1
  · go_enter Try.func56, Try.ntmps56
    go_wp2
    go_ret
    exact ⟨rfl, rfl⟩
  · have h2 : ¬ n < 1 := by omega
    go_enter Try.func56, Try.ntmps56
    go_wp2
    go_ret
    exact ⟨rfl, rfl⟩

theorem setS_arg {L : List Rg} {at_ p : Int} {b : List UInt8} (h : b.length < 1 ∨ 1048576 < b.length) : setS L at_ b p = (L, 1) := by unfold setS; exact if_pos h
theorem setS_bad {L : List Rg} {at_ p : Int} {b : List UInt8} (h1 : ¬ (b.length < 1 ∨ 1048576 < b.length)) (h : partS L at_ b.length p ≠ 0) : setS L at_ b p = (L, partS L at_ b.length p) := by
  unfold setS; rw [if_neg h1, if_pos h]
theorem setS_ok {L : List Rg} {at_ p : Int} {b : List UInt8} (h1 : ¬ (b.length < 1 ∨ 1048576 < b.length)) (h : partS L at_ b.length p = 0) : setS L at_ b p = (L.modify (partK L at_) (fun r => { r with bs := over r.bs (at_ - r.at_).toNat b }), 0) := by
  unfold setS; rw [if_neg h1, if_neg (by simp [h])]

set_option maxRecDepth 100000 in
set_option maxHeartbeats 1000000 in
theorem set_any (a : Nat) (F : Nat → Prop) (L : List Rg) (hok : Ok L) (at_ : Int) (hat : at_ ≤ 9223372036854775807) (A : Option Addr) (c : Nat) (b : List UInt8) (hbm : b.length ≤ 9223372036854775807) (p : Int) (hp : OneP p) (w : World) (h : PSp w a F L)
    (hsrc : b ≠ [] → ∃ bb off, A = some ⟨bb, off, none⟩ ∧ (∀ j x, b[j]? = some x → w.cell? ⟨bb, off + j, none⟩ = some (byC x))) :
    Calls Try.prog 56 #[.pointer (some ⟨a, 0, none⟩), .int .i64 at_, .slice A b.length c, .int .i64 p] w (SetsE a F (setS L at_ b p) w) := by
  by_cases hn : b.length < 1 ∨ 1048576 < b.length
  · refine (set_arg a at_ p default b.length c A hn hbm w).mono ?_
    rintro e w' ⟨rfl, rfl⟩
    rw [setS_arg hn]
    exact ⟨rfl, h.mono (fun k hk _ => .inl hk), Keeps.refl _ _⟩
  obtain ⟨v, Q, hs, rfl, hF⟩ := h
  have c1 := part_any a v Q hok at_ hat b.length (by omega) (by omega) p hp w hs
  have hn1' : ¬ b.length < 1 := by omega
  have hn2' : ¬ 1048576 < b.length := by omega
  by_cases hE : partS (Q.map (·.1)) at_ b.length p = 0
  · obtain ⟨bb, off, rfl, hcell⟩ := hsrc (by intro e; subst e; simp at hn1')
    obtain ⟨r, hr, hrn, _, hin⟩ := partS_ok hE
    obtain ⟨hi1, hi2⟩ := inside_iff hin
    rw [List.getElem?_map] at hr
    cases hq : Q[partK (Q.map (·.1)) at_]? with
    | none => rw [hq] at hr; cases hr
    | some q =>
      rw [hq] at hr
      have hr' : q.1 = r := by simpa using hr
      subst hr'
      rw [partV_ok hq hE, hE] at c1
      have hlen := (hok.each q.1 (List.mem_map.2 ⟨q, List.mem_of_getElem? hq, rfl⟩)).len
      obtain ⟨cur, hcg, hc1, hc2, hc3, hc4⟩ := hs.curOf (List.mem_of_getElem? hq)
      have hqlt := (hs.bys (List.mem_of_getElem? hq)).1
      have hmod : (Q.map (·.1)).modify (partK (Q.map (·.1)) at_) (fun r => { r with bs := over r.bs (at_ - r.at_).toNat b }) = (Q.modify (partK (Q.map (·.1)) at_) (setQ · (at_ - q.1.at_).toNat b)).map (·.1) := by
        apply List.ext_getElem?
        intro i
        rw [List.getElem?_map, List.getElem?_modify, List.getElem?_modify, List.getElem?_map]
        cases hqi : Q[i]? with
        | none => rfl
        | some x =>
          by_cases hi : partK (Q.map (·.1)) at_ = i
          · have hx : x = q := by rw [hi, hqi] at hq; exact Option.some.inj hq
            subst hx
            simp [hi, setQ]
          · simp [hi]
      generalize ho : (at_ - q.1.at_).toNat = o at c1 hmod
      have hob : o + b.length ≤ q.1.bs.length := by omega
      have hW : ∀ w1, Below w.heap.size w w1 → SetsE a F (setS (Q.map (·.1)) at_ b p) w (.returned (.int .i64 0)) (w1.setRow q.2.1 (cur.toList.take o ++ (b.map byC ++ cur.toList.drop (o + b.length))).toArray) := fun w1 hb => by
        rw [setS_ok hn hE]
        have hs1 := hs.keep (w' := w1) (fun k hk => hb.block k (hs.lt k hk))
        have hcg1 : w1.heap[q.2.1]? = some (.cells cur 5 (0, 0)) := (hb.block _ hqlt).trans hcg
        have hs2 := hs1.write hq hob hcg1 hc3 hc4
        rw [List.append_assoc, List.length_map] at hs2
        refine ⟨rfl, ⟨v, _, hs2, hmod.symm, fun k hk => .inl (hF k (by rwa [foot_modify] at hk))⟩, ?_⟩
        exact (Keeps.of_below hb).trans' (keeps_setRow F w1 q.2.1 _ (hF _ (foot_q (List.mem_of_getElem? hq))))
      have hsz : (Try.prog.info? 5).map (·.size) = some 1 := by kernel_rfl
      have hcp : ∀ w1, Below w.heap.size w w1 → ∀ ty, (Builtin.copy_ #[46, 46] ty #[.slice (some ⟨q.2.1, o, none⟩) b.length (q.2.2 - o), .slice (some ⟨bb, off, none⟩) b.length c]).run Try.prog w1 = .ok (goInt b.length) (w1.setRow q.2.1 (cur.toList.take o ++ (b.map byC ++ cur.toList.drop (o + b.length))).toArray) := fun w1 hb ty => by
        have hbb : bb < w.heap.size := by
          have := hcell 0 (b[0]'(by omega)) (List.getElem?_eq_getElem _)
          exact block_lt_of_cell this
        have hcr := run_copy_row Try.prog w1 46 46 ty 5 q.2.1 o b.length (q.2.2 - o) ⟨bb, off, none⟩ b.length c cur 5 (b.map byC) Try.underlying46 hsz ((hb.block _ hqlt).trans hcg) (by simp) ?_ (by simp; omega) (byC_one _)
        · rw [List.append_assoc, List.length_map] at hcr; exact hcr
        intro j u hj
        rw [Addr.add_lit]
        rw [List.getElem?_map] at hj
        cases hx : b[j]? with
        | none => rw [hx] at hj; cases hj
        | some x =>
          rw [hx] at hj
          have hu : byC x = u := by simpa using hj
          subst hu
          exact (hb.cell (p := ⟨bb, off + j, none⟩) hbb).trans (hcell j x hx)
      have HCP := Lib.hid hcp
      have HWW := Lib.hid hW
      have C1 := Lib.hid c1
      clear hq hr hok hs c1 hE hlen ho hi1 hi2 hin hrn hcp hW hmod hob hcell hsrc hcg hc4 hc3 hqlt
      generalize setS (Q.map (·.1)) at_ b p = res at HWW ⊢
      go_enter Try.func56, Try.ntmps56
      go_wp2_with fail
      refine (C1.out).mono ?_
      rintro e w1 ⟨rfl, h1⟩
      have H1 := Lib.hid h1; clear h1
      have hcp1 := fun ty => HCP.out _ H1.out ty
      go_wp2
      go_ret
      exact HWW.out _ H1.out
  · rw [partV_bad hE] at c1
    have hg := setS_bad hn hE
    rw [hg]
    generalize partS (Q.map (·.1)) at_ b.length p = E at c1 hE ⊢
    have C1 := Lib.hid c1
    have HK : Hid (∀ w1, Below w.heap.size w w1 → SetsE a F (Q.map (·.1), E) w (.returned (.int .i64 E)) w1) := Lib.hid (fun w1 hb =>
      ⟨rfl, ⟨v, Q, hs.keep (fun k hk => hb.block k (hs.lt k hk)), rfl, fun k hk => .inl (hF k hk)⟩, Keeps.of_below hb⟩)
    clear hok hs c1 hE hg hsrc hF
    go_enter Try.func56, Try.ntmps56
    go_wp2_with fail
    refine (C1.out).mono ?_
    rintro e w1 ⟨rfl, h1⟩
    have H1 := Lib.hid h1; clear h1
    have hcn := fun ty => run_copy_none (P := Try.prog) w1 46 46 ty 5 none A 0 0 b.length c Try.underlying46 (by kernel_rfl) (Nat.min_zero _)
    go_wp2
    go_ret
    exact HK.out _ H1.out
end Go.Proofs.Ytpononkgeeahdaa
