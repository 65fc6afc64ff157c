/-
  Layer 5, plain: what is mapped holds noughts, and goes again.
  Conditions: none. (My own text.)
-/
import Derived.Test.YtblmppdfdihogaaSqp
namespace Go.Proofs.Ytblmppdfdihogaa
open Go.RowKit Spm
set_option linter.unusedVariables false
set_option linter.unusedSimpArgs false

theorem has_one (p : Int) : has p 1 = decide (p % 2 = 1) := by unfold has; simp
theorem map_err {L : List Rg} (h : Ok L) {n p : Int} (he : (mapS L n p).2.2 ≠ 0) : (mapS L n p).1 = L ∧ (mapS L n p).2.1 = 0 := by
  refine ⟨map_refused he, ?_⟩
  unfold mapS at he ⊢
  split
  · rfl
  · rename_i h1
    rw [if_neg h1] at he
    split
    · rfl
    · rename_i h2
      rw [if_neg h2] at he
      exfalso
      have h1' : right n p = 0 := by simpa using h1
      have h2' : (gapS L n).2 = 0 := by simpa using h2
      obtain ⟨z1, z2, z3, z4⟩ := right_eq h1'
      rw [mapAt_gap h h2' ⟨z3, z4⟩] at he
      exact he rfl

theorem ins_get {L : List Rg} {i : Nat} (hi : i ≤ L.length) (R : Rg) : (L.take i ++ R :: L.drop i)[i]? = some R := by
  rw [List.getElem?_append_right (by simp; omega)]
  simp [Nat.min_eq_left hi]
theorem ins_erase {L : List Rg} {i : Nat} (hi : i ≤ L.length) (R : Rg) : (L.take i ++ R :: L.drop i).eraseIdx i = L := by
  rw [List.eraseIdx_append_of_length_le (by simp; omega)]
  simp [Nat.min_eq_left hi]

/-- A region that was mapped. -/
structure Mapped (L : List Rg) (n p : Int) (L2 : List Rg) (g : Int) : Prop where
  n1 : 1 ≤ n
  n2 : n ≤ 1048576
  p0 : 0 ≤ p
  p7 : p ≤ 7
  g0 : 4096 ≤ g
  g1 : g + up n ≤ 4294967296
  ok : Ok L2
  len : L2.length = L.length + 1
  peek : getS L2 g n 0 = (List.replicate n.toNat 0, 0)
  read : (getS L2 g n 1).2 = if p % 2 = 1 then 0 else 52
  gone : unmapS L2 g = (L, 0)
  twice : unmapS L g = (L, 50)

theorem map_new {L : List Rg} (h : Ok L) {n p : Int} (he : (mapS L n p).2.2 = 0) : Mapped L n p (mapS L n p).1 (mapS L n p).2.1 := by
  have hok := h.map n p
  by_cases hr : right n p = 0
  · by_cases hg : (gapS L n).2 = 0
    · obtain ⟨z1, z2, z3, z4⟩ := right_eq hr
      obtain ⟨g1, g2, g3, g4, g5, g6, _⟩ := gap_ok h hg
      rw [map_gap h hg ⟨z3, z4⟩] at hok ⊢
      simp only at hok ⊢
      generalize hG : (gapS L n).1 = G at *
      have hi := insP_le G L
      generalize insP G L = i at *
      obtain ⟨u1, u2, u3, u4⟩ := up_ge n z1
      have hget := ins_get hi (⟨G, up n, p, zeros (up n)⟩ : Rg)
      have hin : inside G (⟨G, up n, p, zeros (up n)⟩ : Rg) = true := inside_of (Int.le_refl _) (by simp only; omega)
      have hK := partK_eq hok hget hin
      have hF := findS_eq (x := G) hok hget rfl
      have hz : ((zeros (up n)).drop (G - G).toNat).take n.toNat = List.replicate n.toNat 0 := by
        rw [Int.sub_self]
        unfold zeros
        simp
        omega
      have hps : ∀ q : Int, partS (L.take i ++ ⟨G, up n, p, zeros (up n)⟩ :: L.drop i) G n.toNat q = if has p q = false then 52 else 0 := fun q => by
        rw [partS_some (by rw [hK]; exact hget)]
        simp only
        rw [if_neg (by omega)]
      have hh0 : has p 0 = true := by unfold has; simp
      have hil : i < (L.take i ++ (⟨G, up n, p, zeros (up n)⟩ : Rg) :: L.drop i).length := by simp; omega
      refine ⟨z1, z2, z3, z4, g3, g5, hok, by simp; omega, ?_, ?_, ?_, ?_⟩
      · have e := getS_ok (L := L.take i ++ ⟨G, up n, p, zeros (up n)⟩ :: L.drop i) (at_ := G) (p := 0) (n := n.toNat) (by omega) (by omega) (by rw [hps, if_neg (by simp [hh0])]) (by rw [hK]; exact hget)
        rw [show ((n.toNat : Nat) : Int) = n by omega] at e
        rw [e]
        simp only
        rw [hz]
      · rw [get_err, if_neg (by omega), hps, has_one]
        by_cases hp : p % 2 = 1
        · simp [hp]
        · simp [hp]
      · unfold unmapS
        rw [hF, if_pos hil, ins_erase hi]
      · unfold unmapS
        rw [if_neg]
        intro hlt
        have h2 := List.findIdx_getElem (p := fun r : Rg => r.at_ == G) (xs := L) (w := hlt)
        have h3 : (L[findS L G]).at_ = G := beq_iff_eq.1 h2
        have hs1 := (h.each _ (List.getElem_mem hlt)).slo
        have : meets L G (up n) = true := (meets_iff h (by omega)).2 ⟨_, List.getElem_mem hlt, by omega, by omega⟩
        rw [g6] at this
        cases this
    · exfalso
      unfold mapS at he
      rw [if_neg (by simp [hr]), if_pos hg] at he
      exact hg he
  · exfalso
    unfold mapS at he
    rw [if_pos hr] at he
    simp at he
end Go.Proofs.Ytblmppdfdihogaa
