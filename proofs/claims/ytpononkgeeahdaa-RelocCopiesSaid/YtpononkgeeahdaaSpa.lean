/-
  Layer 5: what up, right, find, Gap of the program compute.
  Conditions: none. (My own text.)
-/
import Derived.Test.YtpononkgeeahdaaSpw
import Derived.IntWalk
namespace Go.Proofs.Ytpononkgeeahdaa
open Go.RowKit Spm
set_option linter.unusedVariables false
set_option linter.unusedSimpArgs false

/-- The program's space at block a. -/
abbrev PSp (w : World) (a : Nat) (F : Nat → Prop) (L : List Rg) : Prop := SpcAt 61 67 w a F L

theorem findIdx_hit {α : Type} {p : α → Bool} {L : List α} {k : Nat} {x : α} (h : k ≤ L.findIdx p) (hx : L[k]? = some x) (hp : p x = true) : L.findIdx p = k := by
  have hl := (List.getElem?_eq_some_iff.1 hx).1
  have he := (List.getElem?_eq_some_iff.1 hx).2
  refine (List.findIdx_eq hl).2 ⟨by rw [he]; exact hp, fun j hj => ?_⟩
  exact (List.not_of_lt_findIdx (by omega))
theorem findIdx_miss {α : Type} {p : α → Bool} {L : List α} {k : Nat} {x : α} (h : k ≤ L.findIdx p) (hx : L[k]? = some x) (hp : p x = false) : k + 1 ≤ L.findIdx p := by
  have hl := (List.getElem?_eq_some_iff.1 hx).1
  have he := (List.getElem?_eq_some_iff.1 hx).2
  rcases Nat.lt_or_ge k (L.findIdx p) with h1 | h1
  · exact h1
  · have : L.findIdx p = k := by omega
    have := ((List.findIdx_eq hl).1 this).1
    rw [he, hp] at this
    cases this

theorem ret_int {k : IntKind} {a b : Int} (h : a = b) : Ending.returned (.int k a) = .returned (.int k b) := by rw [h]
theorem ret_int2 {k j : IntKind} {a b c d : Int} (h : a = b) (h' : c = d) : Ending.returned (.tuple #[.int k a, .int j c]) = .returned (.tuple #[.int k b, .int j d]) := by rw [h, h']

theorem up_any (n : Int) (h1 : 1 ≤ n) (h2 : n ≤ 1048576) (w : World) : Calls Try.prog 24 #[.int .i64 n] w fun e w' => e = .returned (.int .i64 (up n)) ∧ w = w' := by
  go_enter Try.func24, Try.ntmps24
  go_wp2
  go_ret
  exact ⟨ret_int (by unfold up; omega), rfl⟩

theorem right_any (size p : Int) (w : World) : Calls Try.prog 23 #[.int .i64 size, .int .i64 p] w fun e w' => e = .returned (.int .i64 (right size p)) ∧ w = w' := by
  by_cases h1 : size < 1
  · go_enter Try.func23, Try.ntmps23; go_wp2; go_ret; exact ⟨ret_int (by rw [right, if_pos (by omega)]), rfl⟩
  · by_cases h2 : 1048576 < size
    · go_enter Try.func23, Try.ntmps23; go_wp2; go_ret; exact ⟨ret_int (by rw [right, if_pos (by omega)]), rfl⟩
    · by_cases h3 : p < 0
      · go_enter Try.func23, Try.ntmps23; go_wp2; go_ret; exact ⟨ret_int (by rw [right, if_pos (by omega)]), rfl⟩
      · by_cases h4 : 7 < p
        · go_enter Try.func23, Try.ntmps23; go_wp2; go_ret; exact ⟨ret_int (by rw [right, if_pos (by omega)]), rfl⟩
        · go_enter Try.func23, Try.ntmps23; go_wp2; go_ret; exact ⟨ret_int (by rw [right, if_neg (by omega)]), rfl⟩

set_option maxHeartbeats 1000000 in
theorem find_any (a : Nat) (F : Nat → Prop) (L : List Rg) (at_ : Int) (w : World) (h : PSp w a F L) : Calls Try.prog 58 #[.pointer (some ⟨a, 0, none⟩), .int .i64 at_] w fun e w' =>
    e = .returned (.tuple #[.int .i64 (findI L at_), .int .i64 (findE L at_)]) ∧ Below w.heap.size w w' := by
  obtain ⟨v, Q, hs, rfl, hF⟩ := h
  obtain ⟨A, cap, rfl, hc0, hcap, hm, hrow⟩ := hs.cells
  have HR := Lib.hid hrow; clear hrow
  have hbox := hs.box.lt
  clear hs hF
  unfold maxLen at hm
  have hlen : (Q.map (·.1)).length = Q.length := by simp
  have HL := Lib.hid hlen; clear hlen
  go_enter Try.func58, Try.ntmps58
  go_wp2
  go_loopw [13] (fun i wr => ∃ k : Nat, k ≤ Q.length ∧ i = .int .i64 k ∧ k ≤ findS (Q.map (·.1)) at_ ∧ Below w.heap.size w wr) (fun i _ => Q.length - (intOf i).toNat)
  case atStart => exact ⟨0, Nat.zero_le _, rfl, Nat.zero_le _, Below.refl _ _⟩
  case round =>
    obtain ⟨k, hk, rfl, hf, hbel⟩ := hrel
    have HF := Lib.hid hf; clear hf
    by_cases hlt : k < Q.length
    · obtain ⟨q, hq⟩ : ∃ q, Q[k]? = some q := ⟨Q[k], List.getElem?_eq_getElem hlt⟩
      obtain ⟨g, rfl, hg, hcell⟩ := HR.out k q hq
      have hx : (Q.map (·.1))[k]? = some q.1 := by rw [List.getElem?_map, hq]; rfl
      have HX := Lib.hid hx; clear hx hq
      obtain ⟨⟨qa, qs, qp, qb⟩, qk, qc⟩ := q
      have c0 : wr.cell? ⟨g, k * 4, none⟩ = some (.int .i64 qa) := (hbel.cell (p := ⟨g, k * 4, none⟩) hg).trans (hcell 0 _ rfl)
      have c1 : wr.cell? ⟨g, k * 4 + 1, none⟩ = some (.int .i64 qs) := (hbel.cell (p := ⟨g, k * 4 + 1, none⟩) hg).trans (hcell 1 _ rfl)
      have c2 : wr.cell? ⟨g, k * 4 + 2, none⟩ = some (.int .i64 qp) := (hbel.cell (p := ⟨g, k * 4 + 2, none⟩) hg).trans (hcell 2 _ rfl)
      have c3 : wr.cell? ⟨g, k * 4 + 3, none⟩ = some (.slice (some ⟨qk, 0, none⟩) qb.length qc) := (hbel.cell (p := ⟨g, k * 4 + 3, none⟩) hg).trans (hcell 3 _ rfl)
      clear hcell
      have HB := Lib.hid (fun o => hbel.alloc hbel.size o); clear hbel
      cases he : (qa == at_)
      · have HN := Lib.hid (findIdx_miss HF.out HX.out he)
        go_wp2
        go_roundw
        case rel => exact ⟨k + 1, by omega, by go_num, HN.out, HB.out _⟩
        case measure => simp [intOf]; omega
      · have HN : Hid (findS (Q.map (·.1)) at_ = k) := Lib.hid (findIdx_hit HF.out HX.out he)
        go_wp2
        go_ret2
        exact ⟨ret_int2 (by rw [findI, HN.out, if_pos (by have := HL.out; omega)]) (by rw [findE, HN.out, if_pos (by have := HL.out; omega)]), HB.out _⟩
    · have HN : Hid (¬ findS (Q.map (·.1)) at_ < (Q.map (·.1)).length) := Lib.hid (by have := HF.out; have := HL.out; omega)
      go_wp2
      go_ret2
      exact ⟨ret_int2 (by rw [findI, if_neg HN.out]) (by rw [findE, if_neg HN.out]), hbel⟩
end Go.Proofs.Ytpononkgeeahdaa
