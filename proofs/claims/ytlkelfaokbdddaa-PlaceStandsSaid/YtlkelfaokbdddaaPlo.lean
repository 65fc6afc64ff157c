/-
  Layer 15, plain: how much an image takes; that there is room in a gap of that size; what is taken out.
  Conditions: none. (My own text.)
-/
import Derived.Test.YtlkelfaokbdddaaPln
namespace Go.Proofs.Ytlkelfaokbdddaa
open Spm
set_option linter.unusedVariables false
set_option linter.unusedSimpArgs false

/-- A segment that may be reckoned with. -/
structure SgOk (s : Sg) : Prop where
  a0 : 0 ≤ s.at_
  a1 : s.at_ ≤ 1048576
  s0 : -1048576 ≤ s.sz
  s1 : s.sz ≤ 524288
def upT (n : Int) : Int := (n + 63).tdiv 64 * 64
theorem upT_up {n : Int} (h : 1 ≤ n) : upT n = up n := by unfold upT up; rw [Int.tdiv_eq_ediv_of_nonneg (by omega)]
def extS (l : List Sg) : Int := l.foldl (fun n s => max n (s.at_ + upT s.sz)) 0
theorem extS_snoc (l : List Sg) (k : Nat) (s : Sg) (h : l[k]? = some s) : extS (l.take (k + 1)) = max (extS (l.take k)) (s.at_ + upT s.sz) := by
  obtain ⟨hk, he⟩ := List.getElem?_eq_some_iff.1 h
  unfold extS
  rw [List.take_succ_eq_append_getElem hk, he, List.foldl_append]
  rfl
theorem upT_bound {n : Int} (h0 : -1048576 ≤ n) (h1 : n ≤ 524288) : -1048576 ≤ upT n ∧ upT n ≤ 524352 := by
  unfold upT
  rcases Int.lt_or_le (n + 63) 0 with h | h
  · have e : (n + 63).tdiv 64 = -((-(n + 63)) / 64) := by
      rw [show n + 63 = -(-(n + 63)) by omega, Int.neg_tdiv, Int.tdiv_eq_ediv_of_nonneg (by omega)]
      simp
    rw [e]; omega
  · rw [Int.tdiv_eq_ediv_of_nonneg h]; omega
theorem extG_bound : ∀ (l : List Sg) (n : Int), (∀ s ∈ l, SgOk s) → 0 ≤ n → n ≤ 1572928 → 0 ≤ l.foldl (fun n s => max n (s.at_ + upT s.sz)) n ∧ l.foldl (fun n s => max n (s.at_ + upT s.sz)) n ≤ 1572928
  | [], n, _, h0, h1 => ⟨h0, h1⟩
  | s :: l, n, hs, h0, h1 => by
    have ho := hs s (by simp)
    have hu := upT_bound ho.s0 ho.s1
    have a0 := ho.a0; have a1 := ho.a1
    exact extG_bound l (max n (s.at_ + upT s.sz)) (fun x hx => hs x (by simp [hx])) (by omega) (by omega)
theorem extS_bound (l : List Sg) (h : ∀ s ∈ l, SgOk s) : 0 ≤ extS l ∧ extS l ≤ 1572928 := extG_bound l 0 h (by omega) (by omega)
theorem SgGood.ok {s : Sg} (h : SgGood s) : SgOk s := ⟨h.a0, by have := h.e1; have := h.s0; omega, by have := h.s0; omega, by have := h.e1; have := h.a0; omega⟩
theorem extG_ge : ∀ (l : List Sg) (n : Int), n ≤ l.foldl (fun n s => max n (s.at_ + upT s.sz)) n ∧ ∀ s ∈ l, s.at_ + upT s.sz ≤ l.foldl (fun n s => max n (s.at_ + upT s.sz)) n
  | [], n => ⟨Int.le_refl _, by simp⟩
  | s :: l, n => by
    obtain ⟨h1, h2⟩ := extG_ge l (max n (s.at_ + upT s.sz))
    refine ⟨by simp only [List.foldl_cons]; omega, fun t ht => ?_⟩
    simp only [List.foldl_cons]
    rcases List.mem_cons.1 ht with rfl | ht
    · omega
    · exact h2 t ht
theorem extG_al : ∀ (l : List Sg) (n : Int), (∀ s ∈ l, SgGood s) → n % 64 = 0 → l.foldl (fun n s => max n (s.at_ + upT s.sz)) n % 64 = 0
  | [], n, _, h => h
  | s :: l, n, hs, h => by
    have hg := hs s (by simp)
    have hu := up_ge s.sz hg.s0
    refine extG_al l _ (fun x hx => hs x (by simp [hx])) ?_
    simp only
    rw [upT_up hg.s0]
    have := hg.al
    omega
/-- The program's answer to 'map', plain. -/
def mapI (L : List Rg) (l : List Sg) : List Rg × Int × Int :=
  if l = [] then (L, 0, 1) else
  if (gapS L (extS l)).2 ≠ 0 then (L, 0, (gapS L (extS l)).2) else goM (gapS L (extS l)).1 L [] l
/-- .. and the document's. -/
def mapR (L : List Rg) (l : List Sg) : List Rg × Int × Int :=
  if (gapS L (extS l)).2 ≠ 0 then (L, 0, (gapS L (extS l)).2) else (refM (gapS L (extS l)).1 L l, (gapS L (extS l)).1, 0)
theorem room_of {L : List Rg} {l : List Sg} (h : Ok L) (hl : SegsOk l) (he : (gapS L (extS l)).2 = 0) : Room (gapS L (extS l)).1 (extS l) L l := by
  obtain ⟨g1, g2, g3, g4, g5, g6, _⟩ := gap_ok h he
  have hal : extS l % 64 = 0 := extG_al l 0 hl.each (by decide)
  have hup : up (extS l) = extS l := up_of_al _ hal
  have hge := (extG_ge l 0).2
  rw [hup] at g5 g6
  refine ⟨h, g3, g4, g5, fun s hs => ⟨hl.each s hs, ?_⟩, hl.apart, fun r hr s hs => ?_⟩
  · have := hge s hs
    rw [upT_up (hl.each s hs).s0] at this
    exact this
  · have a0 := (hl.each s hs).a0
    rcases Int.lt_or_le (gapS L (extS l)).1 (r.at_ + r.sz) with h1 | h1
    · rcases Int.lt_or_le r.at_ ((gapS L (extS l)).1 + extS l) with h2 | h2
      · have := (meets_iff h (by omega)).2 ⟨r, hr, h1, h2⟩
        rw [g6] at this; cases this
      · exact .inr h2
    · left; omega
theorem map_same {L : List Rg} {l : List Sg} (h : Ok L) (hl : SegsOk l) : mapI L l = mapR L l := by
  unfold mapI mapR
  rw [if_neg hl.n1]
  by_cases he : (gapS L (extS l)).2 = 0
  · rw [if_neg (by simp [he]), if_neg (by simp [he]), goM_room l [] L (room_of h hl he)]
  · rw [if_pos he, if_pos he]
/-- THE PLAIN LAW of what may not be: all, or nothing. -/
theorem mapI_all {L : List Rg} (h : Ok L) (l : List Sg) :
    ((mapI L l).2.2 ≠ 0 → (mapI L l).1 = L ∧ (mapI L l).2.1 = 0) ∧ ((mapI L l).2.2 = 0 → (mapI L l).1.length = L.length + l.length ∧ l ≠ [] ∧ MInv L (mapI L l).2.1 (mapI L l).1 l) ∧ Ok (mapI L l).1 := by
  unfold mapI
  by_cases hn : l = []
  · rw [if_pos hn]
    exact ⟨fun _ => ⟨rfl, rfl⟩, fun h0 => absurd (show (1 : Int) = 0 from h0) (by decide), h⟩
  · rw [if_neg hn]
    by_cases he : (gapS L (extS l)).2 = 0
    · rw [if_neg (by simp [he])]
      have hi : MInv L (gapS L (extS l)).1 L [] := ⟨h, by
        have e : outS (gapS L (extS l)).1 [] = fun _ => true := by funext r; simp [outS]
        rw [e]; exact List.filter_eq_self.2 (fun _ _ => rfl), by simp⟩
      obtain ⟨g1, g2, g3⟩ := goM_all l [] L hi
      refine ⟨g1, fun h0 => ?_, g3⟩
      obtain ⟨m1, m2⟩ := g2 h0
      rw [List.nil_append] at m1
      rw [m2]
      exact ⟨m1.len, hn, m1⟩
    · rw [if_pos he]
      exact ⟨fun _ => ⟨rfl, rfl⟩, fun h0 => absurd h0 he, h⟩
/-- Taken out again. -/
theorem back_un {L0 L : List Rg} {base : Int} {l : List Sg} (h : MInv L0 base L l) : unAll L base l = L0 := by rw [unAll_filter base l L h.ok]; exact h.out
theorem unmap_found {L : List Rg} {x : Int} (h : ∃ r ∈ L, r.at_ = x) : (unmapS L x).2 = 0 := by
  obtain ⟨r, hr, hx⟩ := h
  unfold unmapS
  rw [if_pos (by unfold findS; exact List.findIdx_lt_length_of_exists ⟨r, hr, by simp [hx]⟩)]
theorem unErr_zero (base : Int) : ∀ (l : List Sg) (L : List Rg), Ok L → (∀ s ∈ l, ∃ r ∈ L, r.at_ = base + s.at_) → (l.Pairwise fun a b => a.at_ ≠ b.at_) → unErr L base 0 l = 0
  | [], L, h, _, _ => rfl
  | s :: l, L, h, hf, hd => by
    obtain ⟨d1, d2⟩ := List.pairwise_cons.1 hd
    unfold unErr
    rw [if_pos rfl, unmap_found (hf s (by simp))]
    refine unErr_zero base l _ (h.unmap _) (fun t ht => ?_) d2
    obtain ⟨r, hr, hx⟩ := hf t (by simp [ht])
    refine ⟨r, ?_, hx⟩
    rw [unmap_filter h, List.mem_filter]
    refine ⟨hr, ?_⟩
    have := d1 t ht
    simp
    omega
theorem SegsOk.distinct {l : List Sg} (h : SegsOk l) : l.Pairwise fun a b => a.at_ ≠ b.at_ := by
  have := h.apart
  refine List.Pairwise.imp_of_mem ?_ this
  intro a b ha hb hab
  have hu := up_ge a.sz (h.each a ha).s0
  omega
/-- THE PLAIN LAW of mapping and taking out. -/
theorem map_back {L : List Rg} {l : List Sg} (h : Ok L) (hl : SegsOk l) (he : (mapI L l).2.2 = 0) : unAll (mapI L l).1 (mapI L l).2.1 l = L ∧ unErr (mapI L l).1 (mapI L l).2.1 0 l = 0 ∧ (mapI L l).1.length = L.length + l.length := by
  obtain ⟨_, h2, h3⟩ := mapI_all h l
  obtain ⟨e1, e2, e3⟩ := h2 he
  refine ⟨back_un e3, unErr_zero _ l _ h3 (fun s hs => ?_) hl.distinct, e1⟩
  have hm : mapI L l = mapR L l := map_same h hl
  rw [hm] at he ⊢
  unfold mapR at he ⊢
  by_cases hg : (gapS L (extS l)).2 = 0
  · rw [if_neg (by simp [hg])] at he ⊢
    exact ⟨stand _ s, refM_stand l L (room_of h hl hg) s hs, rfl⟩
  · rw [if_pos hg] at he
    exact absurd he hg
end Go.Proofs.Ytlkelfaokbdddaa
