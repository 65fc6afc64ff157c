/-
  Layer 15, plain: an image that may be is mapped whole where there is a gap for it; what then stands there.
  Conditions: none. (My own text.)
-/
import Derived.Test.YtpenejigebkkmaaGreatPlm
namespace Go.Proofs.YtpenejigebkkmaaGreat
open Spm
set_option linter.unusedVariables false
set_option linter.unusedSimpArgs false

/-- A segment of an image that may be. -/
structure SgGood (s : Sg) : Prop where
  a0 : 0 ≤ s.at_
  al : s.at_ % 64 = 0
  s0 : 1 ≤ s.sz
  e1 : s.at_ + s.sz ≤ 65536
  bl : (s.b.length : Int) ≤ s.sz
  p0 : 0 ≤ s.pm
  p7 : s.pm ≤ 7
structure SegsOk (l : List Sg) : Prop where
  n1 : l ≠ []
  n8 : l.length ≤ 8
  each : ∀ s ∈ l, SgGood s
  apart : l.Pairwise fun a b => a.at_ + up a.sz ≤ b.at_
def refStep (base : Int) (L : List Rg) (s : Sg) : List Rg :=
  if s.b = [] then (mapAtS L (base + s.at_) s.sz s.pm).1 else (setS (mapAtS L (base + s.at_) s.sz s.pm).1 (base + s.at_) s.b 0).1
/-- .. as the document maps them: no error is looked at. -/
def refM (base : Int) (L : List Rg) (l : List Sg) : List Rg := l.foldl (refStep base) L
/-- What stands for a segment. -/
def stand (base : Int) (s : Sg) : Rg := ⟨base + s.at_, up s.sz, s.pm, over (zeros (up s.sz)) 0 s.b⟩
theorem over_nil (l : List UInt8) : over l 0 [] = l := by simp [over]
theorem set_mem_at {L : List Rg} {x : Int} {b : List UInt8} {p : Int} {r : Rg} (hr : r ∈ (setS L x b p).1) : ∃ q ∈ L, r.at_ = q.at_ ∧ r.sz = q.sz := by
  unfold setS at hr
  split at hr; · exact ⟨r, hr, rfl, rfl⟩
  split at hr; · exact ⟨r, hr, rfl, rfl⟩
  simp only at hr
  obtain ⟨i, hi⟩ := List.mem_iff_getElem?.1 hr
  rw [List.getElem?_modify] at hi
  cases hq : L[i]? with
  | none => rw [hq] at hi; simp at hi
  | some q =>
    rw [hq] at hi
    refine ⟨q, List.mem_of_getElem? hq, ?_⟩
    simp only [Option.map_eq_map, Option.map_some, Option.some.injEq] at hi
    subst hi
    split <;> exact ⟨rfl, rfl⟩
theorem set_apart {L : List Rg} (h : Ok L) {x : Int} {b : List UInt8} {p : Int} {q r : Rg} (hq : q ∈ L) (hx : q.at_ = x) (hr : r ∈ L) (hne : r.at_ ≠ x) : r ∈ (setS L x b p).1 := by
  unfold setS
  split; · exact hr
  split; · exact hr
  obtain ⟨i, hi⟩ := List.mem_iff_getElem?.1 hq
  obtain ⟨j, hj⟩ := List.mem_iff_getElem?.1 hr
  have hs := (h.each q hq).slo
  have hk := partK_eq h hi (inside_of (x := x) (by omega) (by omega))
  simp only
  rw [hk]
  apply List.mem_iff_getElem?.2
  refine ⟨j, ?_⟩
  rw [List.getElem?_modify, hj]
  have hij : i ≠ j := fun e => by subst e; rw [hi] at hj; simp at hj; subst hj; exact hne hx
  simp [hij]
theorem set_there {L : List Rg} (h : Ok L) {q : Rg} (hq : q ∈ L) {b : List UInt8} (hb : b ≠ []) (hl : (b.length : Int) ≤ q.sz) : (setS L q.at_ b 0).2 = 0 ∧ { q with bs := over q.bs 0 b } ∈ (setS L q.at_ b 0).1 := by
  obtain ⟨i, hi⟩ := List.mem_iff_getElem?.1 hq
  have hro := h.each q hq
  have hs := hro.slo
  have hhi := hro.shi
  have hk := partK_eq h hi (inside_of (x := q.at_) (by omega) (by omega))
  have hb1 : 0 < b.length := by cases b; exact absurd rfl hb; simp
  have hp : partS L q.at_ b.length 0 = 0 := by
    rw [partS_some (hk ▸ hi), if_neg (by omega), if_neg (by simp [has])]
  unfold setS
  rw [if_neg (by omega), if_neg (by simp [hp])]
  refine ⟨rfl, ?_⟩
  simp only
  rw [hk]
  apply List.mem_iff_getElem?.2
  refine ⟨i, ?_⟩
  rw [List.getElem?_modify, hi]
  simp

/-- Whatever regions stand apart from what is to come. -/
structure Room (base E : Int) (L : List Rg) (l : List Sg) : Prop where
  ok : Ok L
  b0 : 4096 ≤ base
  bal : base % 64 = 0
  bE : base + E ≤ 4294967296
  each : ∀ s ∈ l, SgGood s ∧ s.at_ + up s.sz ≤ E
  apart : l.Pairwise fun a b => a.at_ + up a.sz ≤ b.at_
  free : ∀ r ∈ L, ∀ s ∈ l, r.at_ + r.sz ≤ base + s.at_ ∨ base + E ≤ r.at_
theorem Room.map {base E : Int} {L : List Rg} {s : Sg} {l : List Sg} (h : Room base E L (s :: l)) :
    (mapAtS L (base + s.at_) s.sz s.pm).2 = 0 := by
  obtain ⟨hg, hE⟩ := h.each s (by simp)
  have hu := up_ge s.sz hg.s0
  have h1 : right s.sz s.pm = 0 := by unfold right; rw [if_neg (by have := hg.s0; have := hg.e1; have := hg.a0; have := hg.p0; have := hg.p7; omega)]
  have hm : meets L (base + s.at_) (up s.sz) = false := by
    cases hm : meets L (base + s.at_) (up s.sz)
    · rfl
    · obtain ⟨r, hr, h3, h4⟩ := (meets_iff h.ok (by omega)).1 hm
      have := h.free r hr s (by simp)
      omega
  have b0 := h.b0; have bal := h.bal; have bE := h.bE; have a0 := hg.a0; have al := hg.al
  unfold mapAtS
  rw [if_neg (by simp [h1]), if_neg (by omega), if_neg (by simp [hm])]
theorem mapAt_in {L : List Rg} {x n p : Int} {r : Rg} (hr : r ∈ (mapAtS L x n p).1) : r ∈ L ∨ r = ⟨x, up n, p, zeros (up n)⟩ := by
  unfold mapAtS at hr
  split at hr; · exact .inl hr
  split at hr; · exact .inl hr
  split at hr; · exact .inl hr
  simp only [List.mem_append, List.mem_cons] at hr
  rcases hr with h | h | h
  · exact .inl (List.mem_of_mem_take h)
  · exact .inr h
  · exact .inl (List.mem_of_mem_drop h)
theorem refStep_in {base : Int} {L : List Rg} {s : Sg} {r : Rg} (hr : r ∈ refStep base L s) : (∃ q ∈ L, r.at_ = q.at_ ∧ r.sz = q.sz) ∨ (r.at_ = base + s.at_ ∧ r.sz = up s.sz) := by
  have key : ∀ q ∈ (mapAtS L (base + s.at_) s.sz s.pm).1, (∃ q' ∈ L, q.at_ = q'.at_ ∧ q.sz = q'.sz) ∨ (q.at_ = base + s.at_ ∧ q.sz = up s.sz) := fun q hq => by
    rcases mapAt_in hq with h | h
    · exact .inl ⟨q, h, rfl, rfl⟩
    · exact .inr (by rw [h]; exact ⟨rfl, rfl⟩)
  unfold refStep at hr
  split at hr
  · exact key r hr
  · obtain ⟨q, hq, e1, e2⟩ := set_mem_at hr
    rw [e1, e2]
    exact key q hq
theorem Room.step {base E : Int} {L : List Rg} {s : Sg} {l : List Sg} (h : Room base E L (s :: l)) : Room base E (refStep base L s) l := by
  obtain ⟨hp1, hp2⟩ := List.pairwise_cons.1 h.apart
  refine ⟨?_, h.b0, h.bal, h.bE, fun t ht => h.each t (by simp [ht]), hp2, fun r hr t ht => ?_⟩
  · unfold refStep
    split
    · exact h.ok.mapAt _ _ _
    · exact (h.ok.mapAt _ _ _).set _ _ _
  · rcases refStep_in hr with ⟨q, hq, e1, e2⟩ | ⟨e1, e2⟩
    · rw [e1, e2]; exact h.free q hq t (by simp [ht])
    · have := hp1 t ht
      rw [e1, e2]; left; omega
theorem Room.set {base E : Int} {L : List Rg} {s : Sg} {l : List Sg} (h : Room base E L (s :: l)) (hb : s.b ≠ []) :
    (setS (mapAtS L (base + s.at_) s.sz s.pm).1 (base + s.at_) s.b 0).2 = 0 ∧ stand base s ∈ (setS (mapAtS L (base + s.at_) s.sz s.pm).1 (base + s.at_) s.b 0).1 := by
  obtain ⟨hg, hE⟩ := h.each s (by simp)
  have hu := up_ge s.sz hg.s0
  have := hg.bl
  exact set_there (h.ok.mapAt _ _ _) (mapAt_mem h.map).1 hb (by simp only; omega)
/-- THE PLAIN LAW: where there is room all of them are mapped, as the document says. -/
theorem goM_room {base E : Int} : ∀ (l d : List Sg) (L : List Rg), Room base E L l → goM base L d l = (refM base L l, base, 0)
  | [], d, L, h => rfl
  | s :: l, d, L, h => by
    have h1 := h.map
    have h3 := h.step
    show _ = (refM base (refStep base L s) l, base, 0)
    unfold goM
    rw [if_neg (by simp [h1])]
    by_cases hb : s.b = []
    · rw [if_pos hb]
      rw [show refStep base L s = (mapAtS L (base + s.at_) s.sz s.pm).1 from if_pos hb] at h3 ⊢
      exact goM_room l _ _ h3
    · rw [if_neg hb, if_neg (by simp [(h.set hb).1])]
      rw [show refStep base L s = (setS (mapAtS L (base + s.at_) s.sz s.pm).1 (base + s.at_) s.b 0).1 from if_neg hb] at h3 ⊢
      exact goM_room l _ _ h3
theorem Room.here {base E : Int} {L : List Rg} {s : Sg} {l : List Sg} (h : Room base E L (s :: l)) : stand base s ∈ refStep base L s := by
  unfold refStep
  split
  · rename_i hb
    have := (mapAt_mem h.map).1
    unfold stand
    rw [hb, over_nil]
    exact this
  · rename_i hb
    exact (h.set hb).2
theorem Room.keep {base E : Int} {L : List Rg} {s : Sg} {l : List Sg} (h : Room base E L (s :: l)) {r : Rg} (hr : r ∈ L) : r ∈ refStep base L s := by
  have h1 := (mapAt_mem h.map)
  unfold refStep
  split
  · exact h1.2 r hr
  · obtain ⟨hg, hE⟩ := h.each s (by simp)
    have hu := up_ge s.sz hg.s0
    have hf := h.free r hr s (by simp)
    have hro := h.ok.each r hr
    have := hro.slo
    exact set_apart (h.ok.mapAt _ _ _) h1.1 rfl (h1.2 r hr) (by omega)
theorem refM_keep {base E : Int} : ∀ (l : List Sg) (L : List Rg), Room base E L l → ∀ r ∈ L, r ∈ refM base L l
  | [], L, h, r, hr => hr
  | s :: l, L, h, r, hr => refM_keep l _ h.step r (h.keep hr)
/-- .. and each stands there. -/
theorem refM_stand {base E : Int} : ∀ (l : List Sg) (L : List Rg), Room base E L l → ∀ s ∈ l, stand base s ∈ refM base L l
  | [], L, h, s, hs => by simp at hs
  | s :: l, L, h, t, ht => by
    rcases List.mem_cons.1 ht with rfl | ht
    · exact refM_keep l _ h.step _ h.here
    · exact refM_stand l _ h.step t ht
theorem refM_ok {base E : Int} : ∀ (l : List Sg) (L : List Rg), Room base E L l → Ok (refM base L l)
  | [], L, h => h.ok
  | s :: l, L, h => refM_ok l _ h.step
end Go.Proofs.YtpenejigebkkmaaGreat
