/-
  Layer 5: set, Write, Poke, SetWord, PokeWord of the program.
  Layer 5: Write, Poke, SetWord, PokeWord of the program.
  Layer 5: slices.Insert at regions.
  Layer 5: MapAt of the program.
  Layer 5: MapAt of the program.
  Conditions: none. (My own text.)
-/
import Derived.Test.YtpenejigebkkmaaGreatSp2
import Derived.Shelf.Spec.SlicesInsert
import Derived.Shelf.Spec.SlicesInsertGrow
import Derived.Deep.RegionLaw
import Derived.Deep.RegionHeld3
import Derived.Deep.DeepCutAuto
import Derived.Deep.RegionWith
import Derived.Laws.MakeOwn
namespace Go.Proofs.YtpenejigebkkmaaGreat
open Go.RowKit Spm
set_option linter.unusedVariables false
set_option linter.unusedSimpArgs false
open Go.Proofs

/-- Bytes written over a region's. -/
def setQ (q : RowP) (o : Nat) (b : List UInt8) : RowP := ({ q.1 with bs := over q.1.bs o b }, q.2)
theorem over_len (l b : List UInt8) (o : Nat) (h : o + b.length ≤ l.length) : (over l o b).length = l.length := by unfold over; simp; omega
theorem setQ_cells (q : RowP) (o : Nat) (b : List UInt8) (h : o + b.length ≤ q.1.bs.length) : rgC (setQ q o b) = rgC q := by
  unfold rgC setQ
  simp only [over_len _ _ _ h]
theorem flatMap_modify {α β : Type} (f : α → List β) (g : α → α) : ∀ (l : List α) (k : Nat), (∀ x, l[k]? = some x → f (g x) = f x) → (l.modify k g).flatMap f = l.flatMap f
  | [], k, _ => by simp
  | x :: l, 0, h => by simp [h x rfl]
  | x :: l, k + 1, h => by simp [flatMap_modify f g l k (fun y hy => h y (by simpa using hy))]
theorem map_modify_same {α β : Type} (f : α → β) (g : α → α) (h : ∀ x, f (g x) = f x) : ∀ (l : List α) (k : Nat), (l.modify k g).map f = l.map f
  | [], k => by simp
  | x :: l, 0 => by simp [h x]
  | x :: l, k + 1 => by simp [map_modify_same f g h l k]
theorem map_modify {α β : Type} (f : α → β) (g : α → α) (g' : β → β) (h : ∀ x, f (g x) = g' (f x)) : ∀ (l : List α) (k : Nat), (l.modify k g).map f = (l.map f).modify k g'
  | [], k => by simp
  | x :: l, 0 => by simp [h x]
  | x :: l, k + 1 => by simp [map_modify f g g' h l k]
theorem foot_modify (a : Nat) (v : Value) (Q : List RowP) (k o : Nat) (b : List UInt8) : foot a v (Q.modify k (setQ · o b)) = foot a v Q := by
  unfold foot
  rw [map_modify_same (fun q : RowP => q.2.1) (setQ · o b) (fun _ => rfl)]
theorem setRow_size (w : World) (g : Nat) (cs : Array Value) : (w.setRow g cs).heap.size = w.heap.size := by simp [World.setRow]
theorem keeps_setRow (F : Nat → Prop) (w : World) (g : Nat) (cs : Array Value) (h : F g) : Keeps F w (w.setRow g cs) :=
  ⟨rfl, rfl, rfl, by rw [setRow_size]; exact Nat.le_refl _, fun k _ hn => setRow_other w g k cs (fun e => hn (e ▸ h))⟩
theorem mem_modify {α : Type} {g : α → α} : ∀ {l : List α} {k : Nat} {x : α}, x ∈ l.modify k g → (∃ y, l[k]? = some y ∧ x = g y) ∨ ∃ i, i ≠ k ∧ l[i]? = some x := by
  intro l k x hx
  obtain ⟨i, hi⟩ := List.mem_iff_getElem?.1 hx
  rw [List.getElem?_modify] at hi
  by_cases hik : k = i
  · subst hik
    cases hl : l[k]? with
    | none => rw [hl] at hi; simp at hi
    | some y => rw [hl] at hi; exact .inl ⟨y, rfl, by simpa using hi.symm⟩
  · refine .inr ⟨i, fun h => hik h.symm, ?_⟩
    cases hl : l[i]? with
    | none => rw [hl] at hi; simp at hi
    | some y => rw [hl] at hi; simpa [hik] using hi

section
variable {ts tr : TypeId} {w : World} {a : Nat} {v : Value} {Q : List RowP}
theorem Spc.curOf (h : Spc ts tr w a v Q) {q : RowP} (hq : q ∈ Q) : ∃ cur : Array Value, w.heap[q.2.1]? = some (.cells cur 5 (0, 0)) ∧ q.1.bs.length ≤ q.2.2 ∧ q.2.2 ≤ maxLen ∧ cur.size = q.2.2 ∧ cur.toList.take q.1.bs.length = q.1.bs.map byC := by
  rcases (h.each q hq).2 with ⟨hv, hn⟩ | ⟨g, cap, cur, hv, hb, hg, hl, hm, hs, ht⟩
  · simp [byV] at hv
  · simp only [byV, Value.slice.injEq, Option.some.injEq, Addr.mk.injEq] at hv
    obtain ⟨⟨hg1, _⟩, _, hc⟩ := hv
    subst hg1 hc
    exact ⟨cur, hg, hl, hm, by simpa using hs, by simpa using ht⟩
theorem nodup_ne {a : Nat} {v : Value} {Q : List RowP} (h : (foot a v Q).Nodup) {i j : Nat} {p q : RowP} (hp : Q[i]? = some p) (hq : Q[j]? = some q) (hij : i ≠ j) : p.2.1 ≠ q.2.1 := by
  unfold foot at h
  have h1 := (List.nodup_append.1 (List.nodup_cons.1 h).2).2.1
  intro e
  have hl : i < (Q.map (·.2.1)).length := by have := (List.getElem?_eq_some_iff.1 hp).1; simpa using this
  exact hij ((List.getElem?_inj hl h1).1 (by rw [List.getElem?_map, List.getElem?_map, hp, hq]; simp [e]))
theorem nodup_a {a : Nat} {v : Value} {Q : List RowP} (h : (foot a v Q).Nodup) {q : RowP} (hq : q ∈ Q) : a ≠ q.2.1 := by
  unfold foot at h
  intro e
  exact (List.nodup_cons.1 h).1 (List.mem_append_right _ (List.mem_map.2 ⟨q, hq, e.symm⟩))
theorem nodup_v {a : Nat} {v : Value} {Q : List RowP} (h : (foot a v Q).Nodup) {q : RowP} (hq : q ∈ Q) {g : Nat} (hv : v.ownBlock = some g) : g ≠ q.2.1 := by
  unfold foot at h
  have h1 := (List.nodup_append.1 (List.nodup_cons.1 h).2).2.2
  exact h1 g (by rw [hv]; simp) q.2.1 (List.mem_map.2 ⟨q, hq, rfl⟩)
theorem nodup_av {a : Nat} {v : Value} {Q : List RowP} (h : (foot a v Q).Nodup) {g : Nat} (hv : v.ownBlock = some g) : a ≠ g := by
  unfold foot at h
  intro e
  exact (List.nodup_cons.1 h).1 (List.mem_append_left _ (by rw [hv]; simp [e]))

theorem take_over {cur : List Value} {l b : List UInt8} {o : Nat} (h : o + b.length ≤ l.length) (hc : cur.take l.length = l.map byC) :
    (cur.take o ++ b.map byC ++ cur.drop (o + (b.map byC).length)).take (over l o b).length = (over l o b).map byC := by
  have hlen : l.length ≤ cur.length := by
    have := congrArg List.length hc
    simp at this
    omega
  rw [over_len l b o h]
  have h1 : cur.take o = (l.take o).map byC := by
    rw [← List.map_take.symm, ← hc, List.take_take, Nat.min_eq_left (by omega)]
  have h2 : (cur.drop (o + (b.map byC).length)).take (l.length - (o + b.length)) = (l.drop (o + b.length)).map byC := by
    rw [List.map_drop, ← hc, List.length_map, List.drop_take]
  have h3 : ((l.take o).map byC ++ b.map byC).length = o + b.length := by simp; omega
  rw [h1, List.take_append, List.take_of_length_le (by rw [h3]; omega), h3, h2]
  unfold over
  simp

/-- THE WRITE: a stretch of a region's bytes is written over. -/
theorem Spc.write (h : Spc ts tr w a v Q) {k : Nat} {q : RowP} (hq : Q[k]? = some q) {o : Nat} {b : List UInt8} (ho : o + b.length ≤ q.1.bs.length) {cur : Array Value}
    (hg : w.heap[q.2.1]? = some (.cells cur 5 (0, 0))) (hcs : cur.size = q.2.2) (hct : cur.toList.take q.1.bs.length = q.1.bs.map byC) :
    Spc ts tr (w.setRow q.2.1 (cur.toList.take o ++ b.map byC ++ cur.toList.drop (o + (b.map byC).length)).toArray) a v (Q.modify k (setQ · o b)) := by
  have hm := List.mem_of_getElem? hq
  have hcm := (h.bys hm).2.1
  refine ⟨?_, ?_, ?_, ?_⟩
  · exact (setRow_other w _ a _ (nodup_a h.nd hm)).trans h.box
  · rw [flatMap_modify rgC (setQ · o b) Q k (fun x hx => by rw [hq] at hx; cases hx; exact setQ_cells q o b ho), List.length_modify]
    exact owns_block h.row (fun g hv => setRow_other w _ g _ (nodup_v h.nd hm hv))
  · intro x hx
    rcases mem_modify hx with ⟨y, hy, rfl⟩ | ⟨i, hi, hxi⟩
    · rw [hq] at hy
      cases hy
      refine ⟨by simp, .inr ⟨q.2.1, q.2.2, _, rfl, Nat.zero_le _, setRow_heap w q.2.1 cur _ _ _ hg, ?_, (h.bys hm).2.2.1, ?_, ?_⟩⟩
      · show (over q.1.bs o b).length ≤ _
        rw [over_len _ _ _ ho]; exact hcm
      · simp only [List.size_toArray, List.length_append, List.length_take, List.length_drop, Array.length_toList, List.length_map, Nat.mul_one]
        omega
      · have := take_over ho hct
        simpa [setQ] using this
    · exact owns_block (h.each x (List.mem_of_getElem? hxi)) (fun g hv => by
        simp [byV, Value.ownBlock] at hv
        subst hv
        exact setRow_other w _ _ _ (nodup_ne h.nd hxi hq hi))
  · rw [foot_modify]; exact h.nd
end

def SetsE (a : Nat) (F : Nat → Prop) (r : List Rg × Int) (w : World) (e : Ending) (w' : World) : Prop := e = .returned (.int .i64 r.2) ∧ PSp w' a (fun k => F k ∨ w.heap.size ≤ k) r.1 ∧ Keeps F w w'

set_option maxRecDepth 100000 in
theorem set_arg (a : Nat) (at_ p : Int) (v : Value) (n c : Nat) (A : Option Addr) (hn : n < 1 ∨ 1048576 < n) (hm : n ≤ 9223372036854775807) (w : World) : Calls Tryz.prog 50 #[.pointer (some ⟨a, 0, none⟩), .int .i64 at_, .slice A n c, .int .i64 p] w fun e w' => e = .returned (.int .i64 1) ∧ w = w' := by
  rcases hn with h1 | h1
  · go_enter Tryz.func50, Tryz.ntmps50
    go_wp2
    go_ret
    exact ⟨rfl, rfl⟩
  · have h2 : ¬ n < 1 := by omega
    go_enter Tryz.func50, Tryz.ntmps50
    go_wp2
    go_ret
    exact ⟨rfl, rfl⟩

theorem setS_arg {L : List Rg} {at_ p : Int} {b : List UInt8} (h : b.length < 1 ∨ 1048576 < b.length) : setS L at_ b p = (L, 1) := by unfold setS; exact if_pos h
theorem setS_bad {L : List Rg} {at_ p : Int} {b : List UInt8} (h1 : ¬ (b.length < 1 ∨ 1048576 < b.length)) (h : partS L at_ b.length p ≠ 0) : setS L at_ b p = (L, partS L at_ b.length p) := by
  unfold setS; rw [if_neg h1, if_pos h]
theorem setS_ok {L : List Rg} {at_ p : Int} {b : List UInt8} (h1 : ¬ (b.length < 1 ∨ 1048576 < b.length)) (h : partS L at_ b.length p = 0) : setS L at_ b p = (L.modify (partK L at_) (fun r => { r with bs := over r.bs (at_ - r.at_).toNat b }), 0) := by
  unfold setS; rw [if_neg h1, if_neg (by simp [h])]

set_option maxRecDepth 100000 in
set_option maxHeartbeats 1000000 in
theorem set_any (a : Nat) (F : Nat → Prop) (L : List Rg) (hok : Ok L) (at_ : Int) (hat : at_ ≤ 9223372036854775807) (A : Option Addr) (c : Nat) (b : List UInt8) (hbm : b.length ≤ 9223372036854775807) (p : Int) (hp : OneP p) (w : World) (h : PSp w a F L)
    (hsrc : b ≠ [] → ∃ bb off, A = some ⟨bb, off, none⟩ ∧ (∀ j x, b[j]? = some x → w.cell? ⟨bb, off + j, none⟩ = some (byC x))) :
    Calls Tryz.prog 50 #[.pointer (some ⟨a, 0, none⟩), .int .i64 at_, .slice A b.length c, .int .i64 p] w (SetsE a F (setS L at_ b p) w) := by
  by_cases hn : b.length < 1 ∨ 1048576 < b.length
  · refine (set_arg a at_ p default b.length c A hn hbm w).mono ?_
    rintro e w' ⟨rfl, rfl⟩
    rw [setS_arg hn]
    exact ⟨rfl, h.mono (fun k hk _ => .inl hk), Keeps.refl _ _⟩
  obtain ⟨v, Q, hs, rfl, hF⟩ := h
  have c1 := part_any a v Q hok at_ hat b.length (by omega) (by omega) p hp w hs
  have hn1' : ¬ b.length < 1 := by omega
  have hn2' : ¬ 1048576 < b.length := by omega
  by_cases hE : partS (Q.map (·.1)) at_ b.length p = 0
  · obtain ⟨bb, off, rfl, hcell⟩ := hsrc (by intro e; subst e; simp at hn1')
    obtain ⟨r, hr, hrn, _, hin⟩ := partS_ok hE
    obtain ⟨hi1, hi2⟩ := inside_iff hin
    rw [List.getElem?_map] at hr
    cases hq : Q[partK (Q.map (·.1)) at_]? with
    | none => rw [hq] at hr; cases hr
    | some q =>
      rw [hq] at hr
      have hr' : q.1 = r := by simpa using hr
      subst hr'
      rw [partV_ok hq hE, hE] at c1
      have hlen := (hok.each q.1 (List.mem_map.2 ⟨q, List.mem_of_getElem? hq, rfl⟩)).len
      obtain ⟨cur, hcg, hc1, hc2, hc3, hc4⟩ := hs.curOf (List.mem_of_getElem? hq)
      have hqlt := (hs.bys (List.mem_of_getElem? hq)).1
      have hmod : (Q.map (·.1)).modify (partK (Q.map (·.1)) at_) (fun r => { r with bs := over r.bs (at_ - r.at_).toNat b }) = (Q.modify (partK (Q.map (·.1)) at_) (setQ · (at_ - q.1.at_).toNat b)).map (·.1) := by
        apply List.ext_getElem?
        intro i
        rw [List.getElem?_map, List.getElem?_modify, List.getElem?_modify, List.getElem?_map]
        cases hqi : Q[i]? with
        | none => rfl
        | some x =>
          by_cases hi : partK (Q.map (·.1)) at_ = i
          · have hx : x = q := by rw [hi, hqi] at hq; exact Option.some.inj hq
            subst hx
            simp [hi, setQ]
          · simp [hi]
      generalize ho : (at_ - q.1.at_).toNat = o at c1 hmod
      have hob : o + b.length ≤ q.1.bs.length := by omega
      have hW : ∀ w1, Below w.heap.size w w1 → SetsE a F (setS (Q.map (·.1)) at_ b p) w (.returned (.int .i64 0)) (w1.setRow q.2.1 (cur.toList.take o ++ (b.map byC ++ cur.toList.drop (o + b.length))).toArray) := fun w1 hb => by
        rw [setS_ok hn hE]
        have hs1 := hs.keep (w' := w1) (fun k hk => hb.block k (hs.lt k hk))
        have hcg1 : w1.heap[q.2.1]? = some (.cells cur 5 (0, 0)) := (hb.block _ hqlt).trans hcg
        have hs2 := hs1.write hq hob hcg1 hc3 hc4
        rw [List.append_assoc, List.length_map] at hs2
        refine ⟨rfl, ⟨v, _, hs2, hmod.symm, fun k hk => .inl (hF k (by rwa [foot_modify] at hk))⟩, ?_⟩
        exact (Keeps.of_below hb).trans' (keeps_setRow F w1 q.2.1 _ (hF _ (foot_q (List.mem_of_getElem? hq))))
      have hsz : (Tryz.prog.info? 5).map (·.size) = some 1 := by kernel_rfl
      have hcp : ∀ w1, Below w.heap.size w w1 → ∀ ty, (Builtin.copy_ #[38, 38] ty #[.slice (some ⟨q.2.1, o, none⟩) b.length (q.2.2 - o), .slice (some ⟨bb, off, none⟩) b.length c]).run Tryz.prog w1 = .ok (goInt b.length) (w1.setRow q.2.1 (cur.toList.take o ++ (b.map byC ++ cur.toList.drop (o + b.length))).toArray) := fun w1 hb ty => by
        have hbb : bb < w.heap.size := by
          have := hcell 0 (b[0]'(by omega)) (List.getElem?_eq_getElem _)
          exact block_lt_of_cell this
        have hcr := run_copy_row Tryz.prog w1 38 38 ty 5 q.2.1 o b.length (q.2.2 - o) ⟨bb, off, none⟩ b.length c cur 5 (b.map byC) Tryz.underlying38 hsz ((hb.block _ hqlt).trans hcg) (by simp) ?_ (by simp; omega) (byC_one _)
        · rw [List.append_assoc, List.length_map] at hcr; exact hcr
        intro j u hj
        rw [Addr.add_lit]
        rw [List.getElem?_map] at hj
        cases hx : b[j]? with
        | none => rw [hx] at hj; cases hj
        | some x =>
          rw [hx] at hj
          have hu : byC x = u := by simpa using hj
          subst hu
          exact (hb.cell (p := ⟨bb, off + j, none⟩) hbb).trans (hcell j x hx)
      have HCP := Lib.hid hcp
      have HWW := Lib.hid hW
      have C1 := Lib.hid c1
      clear hq hr hok hs c1 hE hlen ho hi1 hi2 hin hrn hcp hW hmod hob hcell hsrc hcg hc4 hc3 hqlt
      generalize setS (Q.map (·.1)) at_ b p = res at HWW ⊢
      go_enter Tryz.func50, Tryz.ntmps50
      go_wp2_with fail
      refine (C1.out).mono ?_
      rintro e w1 ⟨rfl, h1⟩
      have H1 := Lib.hid h1; clear h1
      have hcp1 := fun ty => HCP.out _ H1.out ty
      go_wp2
      go_ret
      exact HWW.out _ H1.out
  · rw [partV_bad hE] at c1
    have hg := setS_bad hn hE
    rw [hg]
    generalize partS (Q.map (·.1)) at_ b.length p = E at c1 hE ⊢
    have C1 := Lib.hid c1
    have HK : Hid (∀ w1, Below w.heap.size w w1 → SetsE a F (Q.map (·.1), E) w (.returned (.int .i64 E)) w1) := Lib.hid (fun w1 hb =>
      ⟨rfl, ⟨v, Q, hs.keep (fun k hk => hb.block k (hs.lt k hk)), rfl, fun k hk => .inl (hF k hk)⟩, Keeps.of_below hb⟩)
    clear hok hs c1 hE hg hsrc hF
    go_enter Tryz.func50, Tryz.ntmps50
    go_wp2_with fail
    refine (C1.out).mono ?_
    rintro e w1 ⟨rfl, h1⟩
    have H1 := Lib.hid h1; clear h1
    have hcn := fun ty => run_copy_none (P := Tryz.prog) w1 38 38 ty 5 none A 0 0 b.length c Tryz.underlying38 (by kernel_rfl) (Nat.min_zero _)
    go_wp2
    go_ret
    exact HK.out _ H1.out
end Go.Proofs.YtpenejigebkkmaaGreat

namespace Go.Proofs.YtpenejigebkkmaaGreat
open Go.RowKit Spm
set_option linter.unusedVariables false
set_option linter.unusedSimpArgs false

theorem SetsE.after {a : Nat} {F : Nat → Prop} {r : List Rg × Int} {w w1 w' : World} {e : Ending} (hb : Below w.heap.size w w1) (h : SetsE a F r w1 e w') : SetsE a F r w e w' :=
  ⟨h.1, h.2.1.mono (fun k hk _ => by have := hb.size; rcases hk with hk | hk; exact .inl hk; exact .inr (by omega)), (Keeps.of_below hb).trans' h.2.2⟩
theorem SetsE.ret {a : Nat} {F : Nat → Prop} {r : List Rg × Int} {w w' : World} {x : Ending} (h : SetsE a F r w x w') : x = .returned (.int .i64 r.2) := h.1
/-- Where the bytes stand that are to be written. -/
def SrcB (w : World) (A : Option Addr) (b : List UInt8) : Prop := b ≠ [] → ∃ bb off, A = some ⟨bb, off, none⟩ ∧ (∀ j x, b[j]? = some x → w.cell? ⟨bb, off + j, none⟩ = some (byC x))

set_option maxRecDepth 100000 in
theorem write_any (a : Nat) (F : Nat → Prop) (L : List Rg) (hok : Ok L) (at_ : Int) (hat : at_ ≤ 9223372036854775807) (A : Option Addr) (c : Nat) (b : List UInt8) (hbm : b.length ≤ 9223372036854775807) (w : World) (h : PSp w a F L) (hsrc : SrcB w A b) :
    Calls Tryz.prog 26 #[.pointer (some ⟨a, 0, none⟩), .int .i64 at_, .slice A b.length c] w (SetsE a F (setS L at_ b 2) w) := by
  have C1 := Lib.hid (set_any a F L hok at_ hat A c b hbm 2 (by unfold OneP; omega) w h hsrc)
  clear hok h hsrc
  generalize setS L at_ b 2 = r at C1 ⊢
  go_enter Tryz.func26, Tryz.ntmps26
  go_wp2_with fail
  refine (C1.out).mono ?_
  rintro e w1 ⟨rfl, h1, h2⟩
  have H1 := Lib.hid h1; clear h1
  have H2 := Lib.hid h2; clear h2
  go_wp2
  go_ret
  exact ⟨rfl, H1.out, H2.out⟩

set_option maxRecDepth 100000 in
theorem poke_any (a : Nat) (F : Nat → Prop) (L : List Rg) (hok : Ok L) (at_ : Int) (hat : at_ ≤ 9223372036854775807) (A : Option Addr) (c : Nat) (b : List UInt8) (hbm : b.length ≤ 9223372036854775807) (w : World) (h : PSp w a F L) (hsrc : SrcB w A b) :
    Calls Tryz.prog 44 #[.pointer (some ⟨a, 0, none⟩), .int .i64 at_, .slice A b.length c] w (SetsE a F (setS L at_ b 0) w) := by
  have C1 := Lib.hid (set_any a F L hok at_ hat A c b hbm 0 (by unfold OneP; omega) w h hsrc)
  clear hok h hsrc
  generalize setS L at_ b 0 = r at C1 ⊢
  go_enter Tryz.func44, Tryz.ntmps44
  go_wp2_with fail
  refine (C1.out).mono ?_
  rintro e w1 ⟨rfl, h1, h2⟩
  have H1 := Lib.hid h1; clear h1
  have H2 := Lib.hid h2; clear h2
  go_wp2
  go_ret
  exact ⟨rfl, H1.out, H2.out⟩

end Go.Proofs.YtpenejigebkkmaaGreat

namespace Go.Proofs.YtpenejigebkkmaaGreat
open Go.RowKit Spm
set_option linter.unusedVariables false
set_option linter.unusedSimpArgs false
open Go.Lib Go.Proofs

theorem run_copy_rowN (P : Program) (w : World) (dT sT ty elem : TypeId) (s g o dLen dCap : Nat) (a : Addr) (sLen sCap : Nat) (cur : Array Value) (t : TypeId) (cs : List Value)
    (hu : P.underlying dT = some (.slice elem)) (hs : (P.info? elem).map (·.size) = some s)
    (hg : w.heap[g]? = some (.cells cur t (0, 0))) (hn : cs.length = Nat.min sLen dLen * s)
    (hsrc : ∀ j v, cs[j]? = some v → w.cell? (a.add j) = some v) (hfit : o + cs.length ≤ cur.size) (h1 : ∀ v ∈ cs, v.oneCell' = true) :
    (Builtin.copy_ #[dT, sT] ty #[.slice (some ⟨g, o, none⟩) dLen dCap, .slice (some a) sLen sCap]).run P w =
      .ok (goInt (Nat.min sLen dLen)) (w.setRow g (cur.toList.take o ++ cs ++ cur.toList.drop (o + cs.length)).toArray) := by
  have hl := run_loadCells_list (P := P) w a cs hsrc
  have hst := run_storeCells_at P g o t cs 0 cur w hg (by simpa using hfit) h1
  cases hq : P.info? elem with
  | none => simp [hq] at hs
  | some i =>
    have hi : i.size = s := by simpa [hq] using hs
    simp [Builtin.copy_, run_underlying hu, Builtin.lenOf, Builtin.firstCells, sizeOf, typeInfo, hq, hi, ← hn, hl, hst]

/-- Cells put in. -/
def putIn (xs news : List Value) (k : Nat) : List Value := xs.take k ++ news ++ xs.drop k

set_option maxRecDepth 100000 in
theorem region_size : (Tryz.prog.info? 74).map (·.size) = some 4 := by kernel_rfl

theorem shift_list {C xs news : List Value} {i n : Nat} (hi : i < n) (hx : C.take (n * 4) = xs) (hl : xs.length = n * 4) (hc : (n + 1) * 4 ≤ C.length) (hn : news.length = 4) :
    let C1 := C.take ((i + 1) * 4) ++ xs.drop (i * 4) ++ C.drop ((i + 1) * 4 + (xs.drop (i * 4)).length)
    C1.length = C.length ∧ (C1.take (i * 4) ++ news ++ C1.drop (i * 4 + news.length)).length = C.length ∧ (C1.take (i * 4) ++ news ++ C1.drop (i * 4 + news.length)).take ((n + 1) * 4) = putIn xs news (i * 4) := by
  intro C1
  have e1 : C1.length = C.length := by simp only [C1, List.length_append, List.length_take, List.length_drop, hl]; omega
  have e2 : C1.take (i * 4) = xs.take (i * 4) := by
    simp only [C1]
    rw [List.append_assoc, List.take_append_of_le_length (by simp; omega), List.take_take, Nat.min_eq_left (by omega), ← hx, List.take_take, Nat.min_eq_left (by omega)]
  have e3 : C1.drop (i * 4 + news.length) = xs.drop (i * 4) ++ C.drop ((i + 1) * 4 + (xs.drop (i * 4)).length) := by
    have hlen : (C.take ((i + 1) * 4)).length = i * 4 + news.length := by simp; omega
    simp only [C1]
    rw [List.append_assoc, ← hlen, List.drop_left]
  refine ⟨e1, ?_, ?_⟩
  · simp only [List.length_append, List.length_take, List.length_drop, e1]; omega
  · rw [e2, e3, ← List.append_assoc]
    unfold putIn
    have hlen : (xs.take (i * 4) ++ news ++ xs.drop (i * 4)).length = (n + 1) * 4 := by simp only [List.length_append, List.length_take, List.length_drop, hl, hn]; omega
    rw [← hlen, List.take_left]

set_option maxHeartbeats 2000000 in
set_option maxRecDepth 100000 in
theorem insert_shift (g n c i vb vc : Nat) (C : Array Value) (xs news : List Value) (w : World) (hi : i < n) (hroom : n + 1 ≤ c) (hc63 : c ≤ 9223372036854775807) (hvb : vb ≠ g)
    (hg : w.heap[g]? = some (.cells C 74 (0, 0))) (hC : C.size = c * 4) (hxs : C.toList.take (n * 4) = xs) (hvg : w.heap[vb]? = some (.cells news.toArray 74 (0, 0))) (hnl : news.length = 4)
    (h1c : ∀ u ∈ xs, u.oneCell' = true) (h1v : ∀ u ∈ news, u.oneCell' = true) :
    Calls Tryz.prog 76 #[.slice (some ⟨g, 0, none⟩) n c, .int .i64 i, .slice (some ⟨vb, 0, none⟩) 1 vc] w fun e w' =>
      e = .returned (.slice (some ⟨g, 0, none⟩) (n + 1) c) ∧ ∃ C', C'.size = c * 4 ∧ C'.toList.take ((n + 1) * 4) = putIn xs news (i * 4) ∧ w' = (w.drew).setRow g C' := by
  have hz2 : ¬ ((i : Int) = (n : Int)) := by omega
  have hov : ∀ lb cb, (callFunc 82 #[.slice (some ⟨vb, 0, none⟩) 1 vc, .slice (some ⟨g, (i + 1) * 4, none⟩) lb cb]).run Tryz.prog w = .ok (.value (.bool false)) w := fun lb cb => by
    rw [run_callFunc_extern Tryz.func82 (by kernel_rfl) (by kernel_rfl) (by kernel_rfl) (e := Extern.SlicesOverlaps.overlaps #[57, 57] #[4]) (by kernel_rfl),
      Lib.run_overlaps_apart w 57 4 74 Tryz.underlying57 4 (fun w => by kernel_rfl) ⟨vb, 0, none⟩ ⟨g, (i + 1) * 4, none⟩ 1 vc lb cb hvb 74 74 4 (c * 4) (by simp [World.shape?, hvg, hnl]) (by simp [World.shape?, hg, hC]) (by omega) (frozen_of_row w vb 0 _ _ hvg) (frozen_of_row w vb 4 _ _ hvg)]
    rfl
  have hxl : xs.length = n * 4 := by rw [← hxs, List.length_take, Array.length_toList]; omega
  have hCl : C.toList.length = c * 4 := by simpa using hC
  obtain ⟨s1, s2, s3⟩ := shift_list (C := C.toList) (news := news) hi hxs hxl (by omega) hnl
  obtain ⟨C1, hC1⟩ : ∃ C1, C.toList.take ((i + 1) * 4) ++ xs.drop (i * 4) ++ C.toList.drop ((i + 1) * 4 + (xs.drop (i * 4)).length) = C1 := ⟨_, rfl⟩
  simp only [hC1] at s1 s2 s3
  have hdl : (xs.drop (i * 4)).length = (n - i) * 4 := by rw [List.length_drop, hxl]; omega
  have hcell : ∀ j u, (xs.drop (i * 4))[j]? = some u → w.cell? ⟨g, i * 4 + j, none⟩ = some u := fun j u hj => by
    rw [cell_of_row w g _ _ _ _ hg]
    rw [List.getElem?_drop, ← hxs, List.getElem?_take] at hj
    split at hj
    · simpa using hj
    · cases hj
  have hcp1 : ∀ ty dc sc, (Builtin.copy_ #[57, 57] ty #[.slice (some ⟨g, (i + 1) * 4, none⟩) (n - i) dc, .slice (some ⟨g, i * 4, none⟩) (n + 1 - i) sc]).run Tryz.prog w.drew =   .ok (goInt ((n - i : Nat) : Int)) (w.drew.setRow g C1.toArray) := fun ty dc sc => by
    have hm : Nat.min (n + 1 - i) (n - i) = n - i := Nat.min_eq_right (by omega)
    have h := run_copy_rowN Tryz.prog w.drew 57 57 ty 74 4 g ((i + 1) * 4) (n - i) dc ⟨g, i * 4, none⟩ (n + 1 - i) sc C 74 (xs.drop (i * 4)) Tryz.underlying57 region_size hg (by rw [hm, hdl]) (fun j u hj => by rw [Addr.add_lit]; exact hcell j u hj) (by rw [hdl]; omega) (fun u hu => h1c u (List.mem_of_mem_drop hu))
    rw [hC1, hm] at h
    exact h
  have hcp2 : ∀ (W : World), W.heap = (w.drew.setRow g C1.toArray).heap → ∀ ty dc, (Builtin.copy_ #[57, 57] ty #[.slice (some ⟨g, i * 4, none⟩) (n + 1 - i) dc, .slice (some ⟨vb, 0, none⟩) 1 vc]).run Tryz.prog W = .ok (goInt 1) (W.setRow g (C1.take (i * 4) ++ news ++ C1.drop (i * 4 + news.length)).toArray) := fun W hW ty dc => by
    have hm : Nat.min 1 (n + 1 - i) = 1 := Nat.min_eq_left (by omega)
    have hg1 : W.heap[g]? = some (.cells C1.toArray 74 (0, 0)) := by rw [hW]; exact setRow_heap w.drew g C _ _ _ hg
    have hv1 : W.heap[vb]? = some (.cells news.toArray 74 (0, 0)) := by rw [hW, setRow_other _ _ _ _ hvb]; exact hvg
    have h := run_copy_rowN Tryz.prog W 57 57 ty 74 4 g (i * 4) (n + 1 - i) dc ⟨vb, 0, none⟩ 1 vc C1.toArray 74 news Tryz.underlying57 region_size hg1 (by rw [hm, hnl]) (fun j u hj => by rw [Addr.add_lit, cell_of_row W vb _ _ _ _ hv1, Nat.zero_add]; simpa using hj) (by simp; omega) h1v
    rw [hm] at h
    exact h
  have hw1 : IntKind.i64.wrap ((i : Int) + 1) = (i : Int) + 1 := by rw [IntKind.wrap_i64]; omega
  have hb1 : (0 : Int) ≤ (i : Int) + 1 := by omega
  have htn : ((i : Int) + 1).toNat = i + 1 := by omega
  have hb2 : ¬ (c = i + 1) := by omega
  have hb4 : ¬ (c = i) := by omega
  have hii : n + 1 - (i + 1) = n - i := by omega
  have hin : i ≤ n := by omega
  have hb5 : (i : Int) ≤ (n : Int) + 1 := by omega
  have HFIN : Hid (∃ C' : Array Value, C'.size = c * 4 ∧ C'.toList.take ((n + 1) * 4) = putIn xs news (i * 4) ∧ (w.drew.setRow g C1.toArray).setRow g (C1.take (i * 4) ++ news ++ C1.drop (i * 4 + news.length)).toArray = w.drew.setRow g C') := Lib.hid ⟨_, by simpa [hCl] using s2, by simpa using s3, setRow_setRow _ _ _ _⟩
  clear s1 s2 s3 hC1 hdl hcell hxl hCl hxs hC hvg hg hnl
  go_enter Tryz.func76, Tryz.ntmps76
  go_wp2
  go_region_law (refine step_copy_runI rfl _ _ 57 57 rfl _ _ (by simp [Act.eval, Act.put]) (by simp [Act.eval, Act.put]) (hcp1 _ _ _) ?_)
  have hcp3 := hcp2 _ rfl
  clear hcp1 hcp2 hov
  go_wp2
  go_ret
  have hf := HFIN.out
  rw [List.append_assoc] at hf
  exact ⟨rfl, hf⟩

/-- An append: as the guide's law says, and where the row then lies. -/
theorem append_own2 (P : Program) (w : World) (t ty e : TypeId) (i : TypeInfo) (z : Value) (size bytes : Nat) (ht : P.underlying t = some (.slice e)) (hi : P.info? e = some i) (hz : i.zero = some z)
    (hsize : i.size = size) (hby : i.bytes = bytes) (hzs : z.cells.size = size) (hsz : 0 < size)
    (v : Value) (n : Nat) (xs : List Value) (hown : w.ownsRow 0 e size v n xs)
    (a : Addr) (m c : Nat) (news : List Value) (hm0 : 0 < m) (hl : news.length = m * size) (hnews : ∀ j u, news[j]? = some u → w.cell? (a.add j) = some u) (h1 : ∀ u ∈ news, u.oneCell' = true)
    (h63 : n + m ≤ maxLen) (hbytes : (n + m) * bytes ≤ 140737488355328) :
    ∃ v' w', (Builtin.append_ #[t, t] ty #[v, .slice (some a) m c]).run P w = .ok v' w' ∧ w'.ownsRow 0 e size v' (n + m) (xs ++ news) ∧ w.grownBy w' v.ownBlock ∧ ((∃ g, v.ownBlock = some g ∧ v'.ownBlock = some g) ∨ v'.ownBlock = some w.heap.size) := by
  obtain ⟨v', w', hr, h2, h3, _⟩ := run_append_own (P := P) w 0 t ty e i z size bytes ht hi hz hsize hby hzs hsz v n xs hown a m c news hl hnews h1 h63 hbytes (Nat.zero_le _)
  refine ⟨v', w', hr, h2, h3, ?_⟩
  have hsmall : n + m ≤ 9223372036854775807 := by simp only [maxLen] at h63; omega
  subst hsize
  subst hby
  rcases hown.2 with ⟨rfl, rfl⟩ | ⟨g, cap, cur, rfl, hbg, hg, hnc, hcm, hcs, htake⟩
  · have hr2 := run_append_nil (P := P) w t ty e i z ht hi hz a m c news hl hnews hm0 (by omega) (by have hb := hbytes; simp only [Nat.zero_add] at hb; omega)
    rw [hr2] at hr
    injection hr with e1 e2
    subst e1
    exact .inr rfl
  · by_cases hroom : n + m ≤ cap
    · have hfit : n * i.size + news.length ≤ cur.size := by rw [hl, hcs, ← Nat.add_mul]; exact Nat.mul_le_mul_right _ hroom
      have hr2 := run_append_room (P := P) w t ty e i ht hi g n cap cur hg a m c news hl hnews h1 hroom hfit
      rw [hr2] at hr
      injection hr with e1 e2
      subst e1
      exact .inl ⟨g, rfl, rfl⟩
    · have holds : ∀ j u, xs[j]? = some u → w.cell? ((⟨g, 0, none⟩ : Addr).add j) = some u := hown.cells (g := g) rfl
      have hr2 := run_append_grow (P := P) w t ty e i z ht hi hz ⟨g, 0, none⟩ n cap xs hown.1 holds a m c news hl hnews (by omega) (by omega) (growslice_fits (by omega) hbytes)
      rw [hr2] at hr
      injection hr with e1 e2
      subst e1
      exact .inr rfl

/-- What an insertion leaves. -/
structure Inserted (w : World) (v : Value) (n : Nat) (ys : List Value) (e : Ending) (w' : World) : Prop where
  ex : ∃ v', e = .returned v' ∧ w'.ownsRow 0 74 4 v' n ys ∧ ((∃ g, v.ownBlock = some g ∧ v'.ownBlock = some g) ∨ ∃ g, v'.ownBlock = some g ∧ w.heap.size ≤ g)
  keeps : Keeps (fun k => v.ownBlock = some k) w w'

theorem Keeps.of_grown {w w' : World} {row : Option Nat} (h : w.grownBy w' row) : Keeps (fun k => row = some k) w w' := ⟨h.os, h.tape, h.output, h.size, fun k hk hn => h.block k hk (fun e => hn e.symm)⟩

theorem Inserted.shift {w : World} {g n c i : Nat} {C C' : Array Value} {xs news : List Value} (hi : i ≤ n) (hroom : n + 1 ≤ c) (hc63 : c ≤ maxLen) (hg : w.heap[g]? = some (.cells C 74 (0, 0))) (hxl : xs.length = n * 4) (hnl : news.length = 4)
    (h1 : C'.size = c * 4) (h2 : C'.toList.take ((n + 1) * 4) = putIn xs news (i * 4)) :
    Inserted w (.slice (some ⟨g, 0, none⟩) n c) (n + 1) (putIn xs news (i * 4)) (.returned (.slice (some ⟨g, 0, none⟩) (n + 1) c)) ((w.drew).setRow g C') where
  ex := ⟨_, rfl, ⟨by unfold putIn; simp [hxl, hnl]; omega, .inr ⟨g, c, C', rfl, Nat.zero_le _, setRow_heap w.drew g C _ _ _ hg, hroom, hc63, h1, h2⟩⟩, .inl ⟨g, rfl, rfl⟩⟩
  keeps := ((Keeps.refl _ w).drew).trans' (keeps_setRow _ w.drew g _ (by rfl))

set_option maxHeartbeats 2000000 in
set_option maxRecDepth 100000 in
theorem insert_end (v : Value) (n vb vc : Nat) (xs news : List Value) (w : World) (hown : w.ownsRow 0 74 4 v n xs) (hn : n ≤ 67108864) (hvg : w.heap[vb]? = some (.cells news.toArray 74 (0, 0))) (hnl : news.length = 4) (h1v : ∀ u ∈ news, u.oneCell' = true) :
    Calls Tryz.prog 76 #[v, .int .i64 n, .slice (some ⟨vb, 0, none⟩) 1 vc] w (Inserted w v (n + 1) (putIn xs news (n * 4))) := by
  obtain ⟨i0, hi, hz0, hz1, hz2⟩ := info_parts cloneR_info
  have hput : putIn xs news (n * 4) = xs ++ news := by
    unfold putIn
    have := hown.1
    rw [List.take_of_length_le (by omega), List.drop_of_length_le (by omega), List.append_nil]
  obtain ⟨v', w', hr, h2, h3, h4⟩ := append_own2 Tryz.prog w 57 57 74 i0 _ 4 48 Tryz.underlying57 hi hz0 hz1 hz2 rfl (by decide) v n xs hown ⟨vb, 0, none⟩ 1 vc news (by decide) (by omega) (fun j u hj => by rw [Addr.add_lit, cell_of_row w vb _ _ _ _ hvg, Nat.zero_add]; simpa using hj) h1v (by unfold maxLen; omega) (by omega)
  have HR : Hid (∀ ty, (Builtin.append_ #[57, 57] ty #[v, .slice (some ⟨vb, 0, none⟩) 1 vc]).run Tryz.prog w = .ok v' w') := Lib.hid (fun ty => by
    obtain ⟨v2, w2, hr2, _⟩ := append_own2 Tryz.prog w 57 ty 74 i0 _ 4 48 Tryz.underlying57 hi hz0 hz1 hz2 rfl (by decide) v n xs hown ⟨vb, 0, none⟩ 1 vc news (by decide) (by omega) (fun j u hj => by rw [Addr.add_lit, cell_of_row w vb _ _ _ _ hvg, Nat.zero_add]; simpa using hj) h1v (by unfold maxLen; omega) (by omega)
    have e : ∀ a b, (Builtin.append_ #[57, 57] a #[v, .slice (some ⟨vb, 0, none⟩) 1 vc]) = (Builtin.append_ #[57, 57] b #[v, .slice (some ⟨vb, 0, none⟩) 1 vc]) := fun a b => rfl
    rw [e ty 57]
    exact hr)
  rw [hput]
  have HF : Hid (Inserted w v (n + 1) (xs ++ news) (.returned v') w') := Lib.hid ⟨⟨v', rfl, h2, by rcases h4 with h4 | h4; exact .inl h4; exact .inr ⟨_, h4, Nat.le_refl _⟩⟩, Keeps.of_grown h3⟩
  rcases hown.2 with ⟨rfl, rfl⟩ | ⟨g, cap, cur, rfl, _, _, hnc, hcm, _⟩
  · clear hown hr h2 h3 h4 hvg hput hi hz0 hz1 hz2
    go_enter Tryz.func76, Tryz.ntmps76
    go_wp2_with (at_builtin; refine Lib.wpList_append_run _ rfl _ _ _ _ rfl _ _ rfl rfl _ _ (HR.out _) ?_)
    go_ret
    exact HF.out
  · unfold maxLen at hcm
    clear hown hr h2 h3 h4 hvg hput hi hz0 hz1 hz2
    by_cases hcn : cap = n
    · subst hcn
      go_enter Tryz.func76, Tryz.ntmps76
      go_wp2_with (at_builtin; refine Lib.wpList_append_run _ rfl _ _ _ _ rfl _ _ rfl rfl _ _ (HR.out _) ?_)
      go_ret
      exact HF.out
    · go_enter Tryz.func76, Tryz.ntmps76
      go_wp2_with (at_builtin; refine Lib.wpList_append_run _ rfl _ _ _ _ rfl _ _ rfl rfl _ _ (HR.out _) ?_)
      go_ret
      exact HF.out

theorem grow_list {X xs news : List Value} {i n : Nat} (hi : i < n) (hl : xs.length = n * 4) (hX : (n + 1) * 4 ≤ X.length) (hx : X.take (i * 4) = xs.take (i * 4)) (hn : news.length = 4) :
    let X1 := X.take (i * 4) ++ news ++ X.drop (i * 4 + news.length)
    X1.length = X.length ∧ (X1.take ((i + 1) * 4) ++ xs.drop (i * 4) ++ X1.drop ((i + 1) * 4 + (xs.drop (i * 4)).length)).length = X.length ∧ (X1.take ((i + 1) * 4) ++ xs.drop (i * 4) ++ X1.drop ((i + 1) * 4 + (xs.drop (i * 4)).length)).take ((n + 1) * 4) = putIn xs news (i * 4) := by
  intro X1
  have e1 : X1.length = X.length := by simp only [X1, List.length_append, List.length_take, List.length_drop]; omega
  have e2 : X1.take ((i + 1) * 4) = xs.take (i * 4) ++ news := by
    have hlen : (X.take (i * 4) ++ news).length = (i + 1) * 4 := by simp only [List.length_append, List.length_take]; omega
    simp only [X1]
    rw [← hlen, List.take_left, hx]
  refine ⟨e1, ?_, ?_⟩
  · simp only [List.length_append, List.length_take, List.length_drop, e1, hl]; omega
  · rw [e2]
    unfold putIn
    have hlen : (xs.take (i * 4) ++ news ++ xs.drop (i * 4)).length = (n + 1) * 4 := by simp only [List.length_append, List.length_take, List.length_drop, hl, hn]; omega
    rw [← hlen, List.take_left]

set_option maxHeartbeats 2000000 in
set_option maxRecDepth 100000 in
theorem insert_grow (g n c i vb vc : Nat) (C : Array Value) (xs news : List Value) (w : World) (hi : i < n) (hn : n ≤ 67108864) (hnc : n ≤ c) (hroom : c < n + 1) (hvb : vb < w.heap.size)
    (hg : w.heap[g]? = some (.cells C 74 (0, 0))) (hC : C.size = c * 4) (hxs : C.toList.take (n * 4) = xs) (hvg : w.heap[vb]? = some (.cells news.toArray 74 (0, 0))) (hnl : news.length = 4)
    (h1c : ∀ u ∈ xs, u.oneCell' = true) (h1v : ∀ u ∈ news, u.oneCell' = true) :
    Calls Tryz.prog 76 #[.slice (some ⟨g, 0, none⟩) n c, .int .i64 i, .slice (some ⟨vb, 0, none⟩) 1 vc] w (Inserted w (.slice (some ⟨g, 0, none⟩) n c) (n + 1) (putIn xs news (i * 4))) := by
  obtain ⟨i0, hi0, hz0, hz1, hz2⟩ := info_parts cloneR_info
  have hne : ¬ ((i : Int) = (n : Int)) := by omega
  have hgl : g < w.heap.size := (Array.getElem?_eq_some_iff.1 hg).1
  have hxl : xs.length = n * 4 := by rw [← hxs, List.length_take, Array.length_toList]; omega
  have hcx : ∀ j u, xs[j]? = some u → w.cell? ⟨g, j, none⟩ = some u := fun j u hj => by
    rw [cell_of_row w g _ _ _ _ hg]
    rw [← hxs, List.getElem?_take] at hj
    split at hj
    · simpa using hj
    · cases hj
  have hold : (Builtin.firstCells i0.size i (.slice (some ⟨g, 0, none⟩) i c)).run Tryz.prog w.drew = .ok (xs.take (i * 4)).toArray w.drew := by
    rw [hz1]
    exact run_firstCells_some w.drew 4 i ⟨g, 0, none⟩ i c (xs.take (i * 4)) (by rw [List.length_take]; omega) (fun j v hj => by
      rw [Addr.add_lit, Nat.zero_add]
      rw [List.getElem?_take] at hj
      split at hj
      · exact hcx j v hj
      · cases hj)
  have hkk : (n : Int) + 1 - (i : Int) = ((n + 1 - i : Nat) : Int) := by omega
  have hik : i + (n + 1 - i) = n + 1 := by omega
  obtain ⟨G, hG⟩ : ∃ G, grownCap w (n + 1) c 74 = G := ⟨_, rfl⟩
  obtain ⟨X, hX⟩ : ∃ X : Array Value, (xs.take (i * 4)).toArray ++ Builtin.zeroCells (Value.agg #[.int .i64 0, .int .i64 0, .int .i64 0, .slice none 0 0]).cells (n + 1 - i) ++ Builtin.zeroCells (Value.agg #[.int .i64 0, .int .i64 0, .int .i64 0, .slice none 0 0]).cells (G - (n + 1)) = X := ⟨_, rfl⟩
  have hrz : ∀ ty, (Builtin.append_ #[57, 3] ty #[.slice (some ⟨g, 0, none⟩) i c, .int .i64 ((n : Int) + 1 - (i : Int))]).run Tryz.prog w =
      .ok (.slice (some ⟨w.heap.size, 0, none⟩) (n + 1) G) (w.drew.alloc (.cells X 74)) := fun ty => by
    have h := Lib.run_append_grow_zeros w 57 3 ty 74 i0 _ .i64 .i64 Tryz.underlying57 Tryz.underlying3 hi0 hz0 (some ⟨g, 0, none⟩) i c (xs.take (i * 4)) hold (n + 1 - i) (by omega) (by omega) (by omega) (by omega) (by rw [hz2]; omega) (by rw [hz2, hik]; exact growslice_fits (by omega) (by omega))
    rw [hik, hG, hX] at h
    rw [hkk]
    exact h
  have hGn : n + 1 ≤ G := by rw [← hG]; exact grownCap_ge w _ _ _
  have hGm : G ≤ maxLen := by
    rw [← hG]
    exact grownCap_le_maxLen w (n + 1) c 74 (by unfold maxLen; omega)
  have hG63 : G ≤ 9223372036854775807 := by unfold maxLen at hGm; omega
  have hXs : X.size = G * 4 := by
    rw [← hX]
    simp only [Array.size_append, size_zeroCells, List.size_toArray, List.length_take, hxl]
    show min (i * 4) (n * 4) + (n + 1 - i) * 4 + (G - (n + 1)) * 4 = G * 4
    omega
  have hXt : X.toList.take (i * 4) = xs.take (i * 4) := by
    rw [← hX]
    simp only [Array.toList_append, List.append_assoc]
    have hlen : (xs.take (i * 4)).length = i * 4 := by rw [List.length_take]; omega
    exact List.take_left' hlen
  obtain ⟨s1, s2, s3⟩ := grow_list (X := X.toList) (news := news) hi hxl (by rw [Array.length_toList]; omega) hXt hnl
  obtain ⟨X1, hX1⟩ : ∃ X1, X.toList.take (i * 4) ++ news ++ X.toList.drop (i * 4 + news.length) = X1 := ⟨_, rfl⟩
  simp only [hX1] at s1 s2 s3
  have hdl : (xs.drop (i * 4)).length = (n - i) * 4 := by rw [List.length_drop, hxl]; omega
  have hcp1 : ∀ (W : World), W.heap = (w.alloc (.cells X 74)).heap → ∀ ty dc, (Builtin.copy_ #[57, 57] ty #[.slice (some ⟨w.heap.size, i * 4, none⟩) (n + 1 - i) dc, .slice (some ⟨vb, 0, none⟩) 1 vc]).run Tryz.prog W = .ok (goInt 1) (W.setRow w.heap.size X1.toArray) := fun W hW ty dc => by
    have hm : Nat.min 1 (n + 1 - i) = 1 := Nat.min_eq_left (by omega)
    have hg1 : W.heap[w.heap.size]? = some (.cells X 74 (0, 0)) := by rw [hW]; exact heap_alloc_new w _
    have hv1 : W.heap[vb]? = some (.cells news.toArray 74 (0, 0)) := by rw [hW, Below.heap_alloc w _ vb hvb]; exact hvg
    have h := run_copy_rowN Tryz.prog W 57 57 ty 74 4 w.heap.size (i * 4) (n + 1 - i) dc ⟨vb, 0, none⟩ 1 vc X 74 news Tryz.underlying57 region_size hg1 (by rw [hm, hnl]) (fun j u hj => by rw [Addr.add_lit, cell_of_row W vb _ _ _ _ hv1, Nat.zero_add]; simpa using hj) (by omega) h1v
    rw [hm, hX1] at h
    exact h
  have hcp2 : ∀ (W : World), W.heap = ((w.alloc (.cells X 74)).setRow w.heap.size X1.toArray).heap → ∀ ty dc sc, (Builtin.copy_ #[57, 57] ty #[.slice (some ⟨w.heap.size, (i + 1) * 4, none⟩) (n - i) dc, .slice (some ⟨g, i * 4, none⟩) (n - i) sc]).run Tryz.prog W = .ok (goInt ((n - i : Nat) : Int)) (W.setRow w.heap.size (X1.take ((i + 1) * 4) ++ xs.drop (i * 4) ++ X1.drop ((i + 1) * 4 + (xs.drop (i * 4)).length)).toArray) := fun W hW ty dc sc => by
    have hm : Nat.min (n - i) (n - i) = n - i := Nat.min_self _
    have hg1 : W.heap[w.heap.size]? = some (.cells X1.toArray 74 (0, 0)) := by rw [hW]; exact setRow_heap _ _ X _ _ _ (heap_alloc_new w _)
    have hgg : W.heap[g]? = some (.cells C 74 (0, 0)) := by rw [hW, setRow_other _ _ _ _ (by omega), Below.heap_alloc w _ g hgl]; exact hg
    have h := run_copy_rowN Tryz.prog W 57 57 ty 74 4 w.heap.size ((i + 1) * 4) (n - i) dc ⟨g, i * 4, none⟩ (n - i) sc X1.toArray 74 (xs.drop (i * 4)) Tryz.underlying57 region_size hg1 (by rw [hm, hdl]) (fun j u hj => by
      rw [Addr.add_lit, cell_of_row W g _ _ _ _ hgg]
      rw [List.getElem?_drop] at hj
      rw [← cell_of_row w g _ _ _ _ hg]
      exact hcx _ u hj) (by simp only [List.size_toArray, s1, Array.length_toList]; omega) (fun u hu => h1c u (List.mem_of_mem_drop hu))
    rw [hm] at h
    exact h
  have hw1 : IntKind.i64.wrap ((i : Int) + 1) = (i : Int) + 1 := by rw [IntKind.wrap_i64]; omega
  have hb1 : (0 : Int) ≤ (i : Int) + 1 := by omega
  have htn : ((i : Int) + 1).toNat = i + 1 := by omega
  have hin : i ≤ n := by omega
  have hb3 : (i : Int) ≤ (n : Int) := by omega
  have hb5 : (i : Int) ≤ (n : Int) + 1 := by omega
  have hb6 : (i : Int) + 1 ≤ (n : Int) + 1 := by omega
  have hii : n + 1 - (i + 1) = n - i := by omega
  have hGi : ¬ (G = i) := by omega
  have hGim : ¬ (G = i + 1) := by omega
  have hci : ¬ (c = i) := by omega
  have hnr : (c : Int) < (n : Int) + 1 := by omega
  have HF : Hid (∀ W : World, W.heap = (((w.alloc (.cells X 74)).setRow w.heap.size X1.toArray).setRow w.heap.size (X1.take ((i + 1) * 4) ++ xs.drop (i * 4) ++ X1.drop ((i + 1) * 4 + (xs.drop (i * 4)).length)).toArray).heap → W.os = w.os → W.tape = w.tape → W.output = w.output → Inserted w (.slice (some ⟨g, 0, none⟩) n c) (n + 1) (putIn xs news (i * 4)) (.returned (.slice (some ⟨w.heap.size, 0, none⟩) (n + 1) G)) W) := Lib.hid (fun W hW a1 a2 a3 => by
    rw [setRow_setRow] at hW
    refine ⟨⟨_, rfl, ⟨by unfold putIn; simp [hxl, hnl]; omega, .inr ⟨w.heap.size, G, _, rfl, Nat.zero_le _, by rw [hW]; exact setRow_heap _ _ X _ _ _ (heap_alloc_new w _), hGn, hGm, ?_, ?_⟩⟩, .inr ⟨w.heap.size, rfl, Nat.le_refl _⟩⟩, ⟨a1, a2, a3, ?_, ?_⟩⟩
    · rw [List.size_toArray, s2, Array.length_toList]; exact hXs
    · exact s3
    · rw [hW, setRow_size]; simp
    · intro k hk _
      rw [hW, setRow_other _ _ _ _ (by omega), Below.heap_alloc w _ k hk])
  clear s1 s2 s3 hX1 hdl hcx hxl hXt hXs hX hG hGm hold hkk hik hxs hC hvg hg hnl hi0 hz0 hz1 hz2
  have hcp1' := hcp1 ((w.alloc (.cells X 74)).drew) rfl
  have hcp2' := hcp2 ((((w.alloc (.cells X 74)).drew).setRow w.heap.size X1.toArray).drew) rfl
  clear hcp1 hcp2
  go_enter Tryz.func76, Tryz.ntmps76
  go_wp2_with (at_builtin; refine Lib.wpList_append_run _ rfl _ _ _ _ rfl _ _ rfl rfl _ _ (hrz _) ?_)
  go_region_law (refine step_copy_runI rfl _ _ 57 57 rfl (.slice (some ⟨w.heap.size, (i + 1) * 4, none⟩) (n - i) (G - (i + 1))) (.slice (some ⟨g, i * 4, none⟩) (n - i) (c - i)) (by simp [Act.eval, Act.put]) (by simp [Act.eval, Act.put]) (hcp2' _ _ _) ?_)
  go_wp2
  go_ret
  exact HF.out _ (by rw [List.append_assoc, List.length_drop]; rfl) rfl rfl rfl

theorem rows_one (Q : List RowP) : ∀ u ∈ Q.flatMap rgC, u.oneCell' = true := by
  intro u hu
  obtain ⟨q, _, hq⟩ := List.mem_flatMap.1 hu
  simp only [rgC, List.mem_cons, List.not_mem_nil, or_false] at hq
  rcases hq with rfl | rfl | rfl | rfl <;> rfl

theorem insert_any (v : Value) (n i vb vc : Nat) (xs news : List Value) (w : World) (hown : w.ownsRow 0 74 4 v n xs) (hi : i ≤ n) (hn : n ≤ 67108864) (hvb : v.ownBlock ≠ some vb) (hvg : w.heap[vb]? = some (.cells news.toArray 74 (0, 0))) (hnl : news.length = 4)
    (h1c : ∀ u ∈ xs, u.oneCell' = true) (h1v : ∀ u ∈ news, u.oneCell' = true) :
    Calls Tryz.prog 76 #[v, .int .i64 i, .slice (some ⟨vb, 0, none⟩) 1 vc] w (Inserted w v (n + 1) (putIn xs news (i * 4))) := by
  rcases Nat.lt_or_ge i n with h | h
  · rcases hown.2 with ⟨rfl, rfl⟩ | ⟨g, cap, cur, rfl, _, hg, hnc, hcm, hcs, htk⟩
    · omega
    · have hvg' : vb ≠ g := fun e => hvb (by rw [e]; rfl)
      by_cases hroom : n + 1 ≤ cap
      · refine (insert_shift g n cap i vb vc cur xs news w h hroom (by unfold maxLen at hcm; omega) hvg' hg hcs htk hvg hnl h1c h1v).mono ?_
        rintro e w' ⟨rfl, C', h1, h2, rfl⟩
        exact Inserted.shift hi hroom hcm hg hown.1 hnl h1 h2
      · exact insert_grow g n cap i vb vc cur xs news w h hn hnc (by omega) (Array.getElem?_eq_some_iff.1 hvg).1 hg hcs htk hvg hnl h1c h1v
  · have : i = n := by omega
    subst this
    exact insert_end v i vb vc xs news w hown hn hvg hnl h1v
end Go.Proofs.YtpenejigebkkmaaGreat

namespace Go.Proofs.YtpenejigebkkmaaGreat
open Go.RowKit Spm
set_option linter.unusedVariables false
set_option linter.unusedSimpArgs false

theorem putIn_rows (Q : List RowP) (q : RowP) (i : Nat) : putIn (Q.flatMap rgC) (rgC q) (i * 4) = (Q.take i ++ q :: Q.drop i).flatMap rgC := by
  unfold putIn
  rw [rows_take, rows_drop, List.flatMap_append, List.flatMap_cons, List.append_assoc]

theorem ins_perm (Q : List RowP) (q : RowP) (i : Nat) : (Q.take i ++ q :: Q.drop i).Perm (q :: Q) := by
  have := List.perm_middle (a := q) (l₁ := Q.take i) (l₂ := Q.drop i)
  rwa [List.take_append_drop] at this

theorem foot_ins {a B : Nat} {v v' : Value} {Q : List RowP} {q : RowP} {i : Nat} (hnd : (foot a v Q).Nodup) (hlt : ∀ k ∈ foot a v Q, k < B)
    (hv : (∃ g, v.ownBlock = some g ∧ v'.ownBlock = some g) ∨ ∃ g, v'.ownBlock = some g ∧ B < g) (hq : q.2.1 = B) : (foot a v' (Q.take i ++ q :: Q.drop i)).Nodup ∧ ∀ k ∈ foot a v' (Q.take i ++ q :: Q.drop i), k ∈ foot a v Q ∨ B ≤ k := by
  have hp : ((Q.take i ++ q :: Q.drop i).map (fun q : RowP => q.2.1)).Perm (B :: Q.map (fun q : RowP => q.2.1)) := by rw [← hq]; exact (ins_perm Q q i).map _
  have hQ : ∀ x ∈ Q.map (fun q : RowP => q.2.1), x ∈ foot a v Q := fun x hx => List.mem_cons_of_mem _ (List.mem_append_right _ hx)
  have hal : a < B := hlt a foot_a
  obtain ⟨g, hg', hgc⟩ : ∃ g, v'.ownBlock = some g ∧ (v.ownBlock = some g ∨ B < g) := by
    rcases hv with ⟨g, h1, h2⟩ | ⟨g, h1, h2⟩
    · exact ⟨g, h2, .inl h1⟩
    · exact ⟨g, h1, .inr h2⟩
  have hnd' := hnd
  unfold foot at hnd
  obtain ⟨n1, n2⟩ := List.nodup_cons.1 hnd
  obtain ⟨n3, n4, n5⟩ := List.nodup_append.1 n2
  constructor
  · unfold foot
    rw [hg', List.nodup_cons]
    refine ⟨?_, ?_⟩
    · intro h
      rcases List.mem_append.1 h with h | h
      · have hag : a = g := by simpa using h
        rcases hgc with h1 | h1
        · exact nodup_av hnd' h1 hag
        · omega
      · rcases List.mem_cons.1 (hp.mem_iff.1 h) with h | h
        · omega
        · exact n1 (List.mem_append_right _ h)
    · rw [List.nodup_append]
      refine ⟨by simp, hp.nodup_iff.2 (List.nodup_cons.2 ⟨fun h => ?_, n4⟩), fun x hx y hy e => ?_⟩
      · have := hlt _ (hQ _ h); omega
      · have hxg : x = g := by simpa using hx
        subst hxg
        subst e
        rcases List.mem_cons.1 (hp.mem_iff.1 hy) with h | h
        · rcases hgc with h1 | h1
          · have := hlt _ (foot_v h1); omega
          · omega
        · rcases hgc with h1 | h1
          · exact n5 x (by rw [h1]; simp) x h rfl
          · have := hlt _ (hQ _ h); omega
  · intro k hk
    unfold foot at hk
    rcases List.mem_cons.1 hk with rfl | hk
    · exact .inl foot_a
    · rcases List.mem_append.1 hk with h | h
      · rw [hg'] at h
        have hkg : k = g := by simpa using h
        subst hkg
        rcases hgc with h1 | h1
        · exact .inl (foot_v h1)
        · exact .inr (by omega)
      · rcases List.mem_cons.1 (hp.mem_iff.1 h) with h | h
        · exact .inr (by omega)
        · exact .inl (hQ _ h)

/-- THE INSERTION, of the space: its new slice is stored. -/
theorem Spc.insert {ts : TypeId} {w W w2 : World} {a : Nat} {v v' : Value} {Q : List RowP} {q : RowP} {i : Nat} {Z : Array Value} (h : Spc ts 74 w a v Q)
    (hq1 : q.2.1 = w.heap.size) (hq2 : q.2.2 = q.1.bs.length) (hZ : Z.toList = q.1.bs.map byC) (hZm : q.1.bs.length ≤ maxLen)
    (hW : W.heap = ((w.alloc (.cells Z 5)).alloc (.cells (rgC q).toArray 74)).heap)
    (h1 : w2.ownsRow 0 74 4 v' (Q.length + 1) (putIn (Q.flatMap rgC) (rgC q) (i * 4))) (h2 : (∃ g, v.ownBlock = some g ∧ v'.ownBlock = some g) ∨ ∃ g, v'.ownBlock = some g ∧ W.heap.size ≤ g)
    (h3 : Keeps (fun k => v.ownBlock = some k) W w2) :
    Spc ts 74 (w2.setCell ⟨a, 0, none⟩ v') a v' (Q.take i ++ q :: Q.drop i) ∧ (∀ k ∈ foot a v' (Q.take i ++ q :: Q.drop i), k ∈ foot a v Q ∨ w.heap.size ≤ k) := by
  have hWs : W.heap.size = w.heap.size + 1 + 1 := by rw [hW]; simp
  have hWk : ∀ k, k < w.heap.size → W.heap[k]? = w.heap[k]? := fun k hk => by
    rw [hW, Below.heap_alloc _ _ _ (by simp; omega), Below.heap_alloc _ _ _ hk]
  have hW0 : W.heap[w.heap.size]? = some (.cells Z 5 (0, 0)) := by
    rw [hW, Below.heap_alloc _ _ _ (by simp)]; exact heap_alloc_new w _
  have hv2 : (∃ g, v.ownBlock = some g ∧ v'.ownBlock = some g) ∨ ∃ g, v'.ownBlock = some g ∧ w.heap.size < g := by
    rcases h2 with h2 | ⟨g, h2, h4⟩
    · exact .inl h2
    · exact .inr ⟨g, h2, by omega⟩
  obtain ⟨f1, f2⟩ := foot_ins (i := i) h.nd h.lt hv2 hq1
  have hnv : ∀ k, k ∈ foot a v Q → v.ownBlock ≠ some k → w2.heap[k]? = w.heap[k]? := fun k hk hn => by
    have hlt := h.lt k hk
    rw [h3.block k (by omega) hn, hWk k hlt]
  have hav' : ∀ g, v'.ownBlock = some g → g ≠ a := fun g hg e => by
    subst e
    have := f1
    unfold foot at this
    exact (List.nodup_cons.1 this).1 (List.mem_append_left _ (by rw [hg]; simp))
  have hba : Blk w2 a ts #[v] := (hnv a foot_a (fun e => nodup_av h.nd e rfl)).trans h.box
  refine ⟨⟨?_, ?_, ?_, f1⟩, f2⟩
  · have := hba.set 0 v'
    simpa using this
  · have hlen : (Q.take i ++ q :: Q.drop i).length = Q.length + 1 := by simp; omega
    rw [hlen, ← putIn_rows]
    exact owns_block h1 (fun g hg => Below.heap_setCell _ _ _ _ (hav' g hg))
  · intro x hx
    have hx' := (ins_perm Q q i).mem_iff.1 hx
    rcases List.mem_cons.1 hx' with rfl | hxq
    · have hcell : (w2.setCell ⟨a, 0, none⟩ v').heap[x.2.1]? = some (.cells Z 5 (0, 0)) := by
        rw [Below.heap_setCell _ _ _ _ (by have := h.lt a foot_a; simp only; omega), h3.block _ (by omega) (fun e => by have := h.lt _ (foot_v e); omega), hq1]
        exact hW0
      refine ⟨by simp, .inr ⟨x.2.1, x.2.2, Z, rfl, Nat.zero_le _, hcell, by omega, by omega, ?_, ?_⟩⟩
      · rw [hq2, Nat.mul_one, ← Array.length_toList, hZ, List.length_map]
      · rw [Nat.mul_one, hZ]; exact List.take_of_length_le (by simp)
    · refine owns_block (h.each x hxq) (fun g hg => ?_)
      simp [byV, Value.ownBlock] at hg
      subst hg
      rw [Below.heap_setCell _ _ _ _ (fun e => nodup_a h.nd hxq e.symm)]
      exact hnv _ (foot_q hxq) (fun e => nodup_v h.nd hxq e rfl)
end Go.Proofs.YtpenejigebkkmaaGreat

namespace Go.Proofs.YtpenejigebkkmaaGreat
open Go.RowKit Spm
set_option linter.unusedVariables false
set_option linter.unusedSimpArgs false

theorem right_ne {size p : Int} (h : right size p ≠ 0) : right size p = 1 := by
  unfold right at h ⊢
  split
  · rfl
  · rename_i hc; rw [if_neg hc] at h; exact absurd rfl h
theorem right_eq {size p : Int} (h : right size p = 0) : 1 ≤ size ∧ size ≤ 1048576 ∧ 0 ≤ p ∧ p ≤ 7 := by
  unfold right at h
  split at h
  · cases h
  · omega
def atBad (at_ size : Int) : Prop := at_ < 4096 ∨ at_ % 64 ≠ 0 ∨ 4294967296 - up size < at_

theorem mapAtS_r {L : List Rg} {at_ size p : Int} (h : right size p ≠ 0) : mapAtS L at_ size p = (L, 1) := by unfold mapAtS; rw [if_pos h]
theorem mapAtS_b {L : List Rg} {at_ size p : Int} (h : right size p = 0) (hb : atBad at_ size) : mapAtS L at_ size p = (L, 1) := by unfold atBad at hb; unfold mapAtS; rw [if_neg (by simp [h]), if_pos hb]
theorem mapAtS_m {L : List Rg} {at_ size p : Int} (h : right size p = 0) (hb : ¬ atBad at_ size) (hm : meets L at_ (up size) = true) : mapAtS L at_ size p = (L, 51) := by unfold atBad at hb; unfold mapAtS; rw [if_neg (by simp [h]), if_neg hb, if_pos hm]
theorem mapAtS_ok {L : List Rg} {at_ size p : Int} (h : right size p = 0) (hb : ¬ atBad at_ size) (hm : meets L at_ (up size) = false) : mapAtS L at_ size p = (L.take (insP at_ L) ++ ⟨at_, up size, p, zeros (up size)⟩ :: L.drop (insP at_ L), 0) := by
  unfold atBad at hb; unfold mapAtS; rw [if_neg (by simp [h]), if_neg hb, if_neg (by simp [hm])]

theorem SetsE.same {a : Nat} {F : Nat → Prop} {L : List Rg} {err : Int} {w w' : World} (h : PSp w a F L) (hb : Below w.heap.size w w') : SetsE a F (L, err) w (.returned (.int .i64 err)) w' :=
  ⟨rfl, (h.stay hb).mono (fun k hk _ => .inl hk), Keeps.of_below hb⟩

set_option maxRecDepth 100000 in
theorem mapAt_r (a : Nat) (F : Nat → Prop) (L : List Rg) (at_ size p : Int) (hr : right size p ≠ 0) (w : World) (h : PSp w a F L) : Calls Tryz.prog 63 #[.pointer (some ⟨a, 0, none⟩), .int .i64 at_, .int .i64 size, .int .i64 p] w (SetsE a F (L, 1) w) := by
  have c1 := fun w => right_any size p w
  rw [right_ne hr] at c1
  have C1 := Lib.hid c1
  have H := Lib.hid h
  clear c1 hr h
  go_enter Tryz.func63, Tryz.ntmps63
  go_wp2_with fail
  refine (C1.out _).mono ?_
  rintro e w1 ⟨rfl, rfl⟩
  go_wp2
  go_ret
  exact SetsE.same H.out (Below.refl _ _)

set_option maxHeartbeats 1000000 in
set_option maxRecDepth 100000 in
theorem mapAt_b (a : Nat) (F : Nat → Prop) (L : List Rg) (at_ size p : Int) (hr : right size p = 0) (hb : atBad at_ size) (w : World) (h : PSp w a F L) : Calls Tryz.prog 63 #[.pointer (some ⟨a, 0, none⟩), .int .i64 at_, .int .i64 size, .int .i64 p] w (SetsE a F (L, 1) w) := by
  have c1 := fun w => right_any size p w
  rw [hr] at c1
  have C1 := Lib.hid c1
  have H := Lib.hid h
  obtain ⟨z1, z2, _, _⟩ := right_eq hr
  have C2 := Lib.hid (fun w => up_any size z1 z2 w)
  have hU := up_ge size z1
  have hU2 := up_le size z1 z2
  unfold atBad at hb
  generalize up size = U at C2 hU hU2 hb
  obtain ⟨_, _, hU1, _⟩ := hU
  clear c1 hr h z1 z2
  by_cases h1 : at_ < 4096
  · clear hb
    go_enter Tryz.func63, Tryz.ntmps63
    go_wp2_with fail
    refine (C1.out _).mono ?_
    rintro e w1 ⟨rfl, rfl⟩
    go_wp2_with fail
    refine (C2.out _).mono ?_
    rintro e w1 ⟨rfl, rfl⟩
    go_wp2
    go_ret
    exact SetsE.same H.out (Below.refl _ _)
  · by_cases h2 : at_ % 64 = 0
    · have h3 : 4294967296 - U < at_ := by omega
      clear hb
      go_enter Tryz.func63, Tryz.ntmps63
      go_wp2_with fail
      refine (C1.out _).mono ?_
      rintro e w1 ⟨rfl, rfl⟩
      go_wp2_with fail
      refine (C2.out _).mono ?_
      rintro e w1 ⟨rfl, rfl⟩
      go_wp2
      go_ret
      exact SetsE.same H.out (Below.refl _ _)
    · clear hb
      go_enter Tryz.func63, Tryz.ntmps63
      go_wp2_with fail
      refine (C1.out _).mono ?_
      rintro e w1 ⟨rfl, rfl⟩
      go_wp2_with fail
      refine (C2.out _).mono ?_
      rintro e w1 ⟨rfl, rfl⟩
      go_wp2
      go_ret
      exact SetsE.same H.out (Below.refl _ _)

theorem meets_no_prev {L : List Rg} {at_ n : Int} {j : Nat} {x : Rg} (hk : insP at_ L = j + 1) (hx : L[j]? = some x) (h : at_ < x.at_ + x.sz) : meets L at_ n = true := by
  unfold meets
  rw [hk, Nat.add_sub_cancel, List.getD_eq_getElem?_getD, hx]
  simp [h]
def prevOk (L : List Rg) (at_ : Int) (k : Nat) : Prop := ∀ j x, k = j + 1 → L[j]? = some x → x.at_ + x.sz ≤ at_
theorem meets_next {L : List Rg} {at_ n : Int} {k : Nat} {x : Rg} (hk : insP at_ L = k) (hx : L[k]? = some x) (h : x.at_ < at_ + n) : meets L at_ n = true := by
  have hl := (List.getElem?_eq_some_iff.1 hx).1
  unfold meets
  rw [hk, List.getD_eq_getElem?_getD (l := L) (i := k), hx]
  simp [h, hl]
theorem meets_none {L : List Rg} {at_ n : Int} {k : Nat} (hk : insP at_ L = k) (hp : prevOk L at_ k) (hx : ∀ x, L[k]? = some x → at_ + n ≤ x.at_) : meets L at_ n = false := by
  unfold meets
  rw [hk]
  have h1 : (decide (0 < k) && decide (at_ < (L.getD (k - 1) default).at_ + (L.getD (k - 1) default).sz)) = false := by
    cases k with
    | zero => simp
    | succ j =>
      rw [Nat.add_sub_cancel, List.getD_eq_getElem?_getD]
      cases hj : L[j]? with
      | none =>
        have h1 := insP_le at_ L
        have h2 := List.getElem?_eq_none_iff.1 hj
        omega
      | some x => have := hp j x rfl hj; simp; omega
  have h2 : (decide (k < L.length) && decide ((L.getD k default).at_ < at_ + n)) = false := by
    rw [List.getD_eq_getElem?_getD]
    cases hj : L[k]? with
    | none => have := List.getElem?_eq_none_iff.1 hj; simp; omega
    | some x => have := hx x hj; simp; omega
  rw [h1, h2]; rfl

theorem insert_at {ts : TypeId} {W0 : World} {a : Nat} {v : Value} {Q : List RowP} (hs : Spc ts 74 W0 a v Q) (hn : Q.length ≤ 67108864) (q : RowP) (i : Nat) (hi : i ≤ Q.length) (Z : Array Value) (W : World)
    (hW : W.heap = ((W0.alloc (.cells Z 5)).alloc (.cells (rgC q).toArray 74)).heap) :
    Calls Tryz.prog 76 #[v, .int .i64 i, .slice (some ⟨W0.heap.size + 1, 0, none⟩) 1 1] W (Inserted W v (Q.length + 1) (putIn (Q.flatMap rgC) (rgC q) (i * 4))) := by
  have hWk : ∀ k, k < W0.heap.size → W.heap[k]? = W0.heap[k]? := fun k hk => by rw [hW, Below.heap_alloc _ _ _ (by simp; omega), Below.heap_alloc _ _ _ hk]
  refine insert_any v Q.length i (W0.heap.size + 1) 1 (Q.flatMap rgC) (rgC q) W (owns_block hs.row (fun g hg => hWk g (hs.lt g (foot_v hg)))) hi hn (fun e => ?_) ?_ rfl (rows_one Q) (by intro u hu; simp only [rgC, List.mem_cons, List.not_mem_nil, or_false] at hu; rcases hu with rfl | rfl | rfl | rfl <;> rfl)
  · have := hs.lt _ (foot_v e); omega
  · rw [hW]; exact Blk.at_ (w := W0.alloc (.cells Z 5)) (by simp)

theorem mapAt_close {W0 w W w2 : World} {a : Nat} {v v' : Value} {Q : List RowP} {F : Nat → Prop} {i : Nat} {Z : Array Value} {at_ p : Int} {u : Nat} (hs : Spc 59 74 W0 a v Q) (hb : Below w.heap.size w W0) (hF : ∀ k ∈ foot a v Q, F k)
    (hZ : Z = madeCells #[.int .u8 0] u) (hu : u ≤ maxLen)
    (hW : W.heap = ((W0.alloc (.cells Z 5)).alloc (.cells #[.int .i64 at_, .int .i64 u, .int .i64 p, .slice (some ⟨W0.heap.size, 0, none⟩) u u] 74)).heap) (ho : W.os = W0.os) (ht : W.tape = W0.tape) (hp : W.output = W0.output)
    (h1 : w2.ownsRow 0 74 4 v' (Q.length + 1) (putIn (Q.flatMap rgC) [.int .i64 at_, .int .i64 u, .int .i64 p, .slice (some ⟨W0.heap.size, 0, none⟩) u u] (i * 4)))
    (h2 : (∃ g, v.ownBlock = some g ∧ v'.ownBlock = some g) ∨ ∃ g, v'.ownBlock = some g ∧ W.heap.size ≤ g) (h3 : Keeps (fun k => v.ownBlock = some k) W w2) :
    SetsE a F ((Q.map (·.1)).take i ++ ⟨at_, u, p, zeros u⟩ :: (Q.map (·.1)).drop i, 0) w (.returned (.int .i64 0)) (w2.setCell ⟨a, 0, none⟩ v') := by
  have hl : (zeros (u : Int)).length = u := by unfold zeros; simp
  have hr : rgC ((⟨at_, u, p, zeros u⟩, W0.heap.size, u) : RowP) = [.int .i64 at_, .int .i64 u, .int .i64 p, .slice (some ⟨W0.heap.size, 0, none⟩) u u] := by unfold rgC; simp only [hl]
  have hZl : Z.toList = (zeros (u : Int)).map byC := by
    rw [hZ, toList_madeCells_one]
    unfold zeros
    rw [List.map_replicate, Int.toNat_natCast]
    rfl
  obtain ⟨s1, s2⟩ := hs.insert (q := (⟨at_, u, p, zeros u⟩, W0.heap.size, u)) (i := i) rfl hl.symm hZl (by show (zeros (u : Int)).length ≤ _; rw [hl]; exact hu) (by rw [hr]; exact hW) (by rw [hr]; exact h1) h2 h3
  have hW0 : Keeps F W0 W := ⟨ho, ht, hp, by rw [hW]; simp; omega, fun k hk _ => by rw [hW, Below.heap_alloc _ _ _ (by simp; omega), Below.heap_alloc _ _ _ hk]⟩
  refine ⟨rfl, ⟨v', _, s1, ?_, fun k hk => ?_⟩, ?_⟩
  · simp [List.map_take, List.map_drop]
  · rcases s2 k hk with h | h
    · exact .inl (hF k h)
    · exact .inr (by have := hb.size; omega)
  · refine (((Keeps.of_below hb).trans' hW0).trans' (h3.mono (fun k hk => hF k (foot_v hk)))).setCell (.inl (hF a foot_a)) _

theorem SetsE.drew {a : Nat} {F : Nat → Prop} {r : List Rg × Int} {w w' : World} {e : Ending} (h : SetsE a F r w e w') : SetsE a F r w e w'.drew := ⟨h.1, h.2.1.keep (fun _ _ _ => rfl), h.2.2.drew⟩

theorem owns_shape {w : World} {base : Nat} {e : TypeId} {size n : Nat} {v : Value} {xs : List Value} (h : w.ownsRow base e size v n xs) : ∃ A c, v = .slice A n c := by
  rcases h.2 with ⟨h1, h2⟩ | ⟨g, cap, cur, h1, _⟩
  · exact ⟨none, 0, by rw [h1, h2]⟩
  · exact ⟨_, _, h1⟩

/-- The box stands; but for the old row all is as it was. -/
abbrev Hold (a : Nat) (v : Value) (W0 w' : World) : Prop := (∀ k_ : Nat, w'.cell? ⟨a, k_, none⟩ = (#[v] : Array Value)[k_]?) ∧ (∀ k_ : Nat, w'.frozen? ⟨a, k_, none⟩ = false) ∧ Blk w' a 59 #[v] ∧ W0.heap.size ≤ w'.heap.size
theorem Hold.of {a : Nat} {v : Value} {W0 w' : World} (h : Blk w' a 59 #[v]) (hz : W0.heap.size ≤ w'.heap.size) : Hold a v W0 w' := ⟨h.cell, h.free, h, hz⟩
theorem Hold.drew {a : Nat} {v : Value} {W0 w' : World} (h : Hold a v W0 w') : Hold a v W0 w'.drew := Hold.of h.2.2.1.drew h.2.2.2
theorem Hold.alloc {a : Nat} {v : Value} {W0 w' : World} (h : Hold a v W0 w') (o : Obj) : Hold a v W0 (w'.alloc o) := Hold.of (h.2.2.1.alloc o) (by have := h.2.2.2; simp; omega)
theorem Hold.keeps {a : Nat} {v : Value} {W0 w' w2 : World} {F : Nat → Prop} (h : Hold a v W0 w') (hk : Keeps F w' w2) (hF : ¬ F a) : Hold a v W0 w2 := Hold.of (h.2.2.1.keeps hk hF) (Nat.le_trans h.2.2.2 hk.size)

end Go.Proofs.YtpenejigebkkmaaGreat
