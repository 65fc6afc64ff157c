/-
  Layer 5: the document's Word.
  Conditions: none. (My own text.)
-/
import Derived.Test.YtkpaeogjefjbfaaRf2
namespace Go.Proofs.Ytkpaeogjefjbfaa
open Go.RowKit Spm
set_option linter.unusedVariables false
set_option linter.unusedSimpArgs false

theorem leS_lt : ∀ l : List UInt8, leS l < 256 ^ l.length
  | [] => by simp [leS]
  | b :: l => by
    have h1 := leS_lt l
    have h2 := b.toNat_lt
    rw [List.length_cons, Nat.pow_succ]
    unfold leS
    omega
theorem leS_drop {l : List UInt8} {j : Nat} {b : UInt8} (h : l[j]? = some b) : leS (l.drop j) = b.toNat + 256 * leS (l.drop (j + 1)) := by
  obtain ⟨hj, he⟩ := List.getElem?_eq_some_iff.1 h
  rw [List.drop_eq_getElem_cons hj, he]
  rfl
theorem leS_small {l : List UInt8} (hl : l.length = 8) (j : Nat) : leS (l.drop (j + 1)) < 72057594037927936 := by
  have h1 := leS_lt (l.drop (j + 1))
  have h2 : 256 ^ (l.drop (j + 1)).length ≤ 256 ^ 7 := Nat.pow_le_pow_right (by decide) (by rw [List.length_drop, hl]; omega)
  have h3 : (256 : Nat) ^ 7 = 72057594037927936 := by decide
  omega

set_option maxRecDepth 100000 in
set_option maxHeartbeats 1000000 in
theorem rword_l {a : Nat} {F : Nat → Prop} {L : List Rg} {w : World} (h : RSpL w a F L) (ok : Ok L) (x : Int) (hx : I64 x) (p : Int) (hp' : p = 0 ∨ p = 1 ∨ p = 2 ∨ p = 4) :
    Calls Try.prog 75 #[.pointer (some ⟨a, 0, none⟩), .int .i64 x, .int .i64 p] w fun e w' => e = .returned (.tuple #[.int .i64 (wordAt L x p).1, .int .i64 (wordAt L x p).2]) ∧ Below w.heap.size w w' := by
  have hl := getS_len ok (at_ := x) (n := 8) (p := p) (by decide) (by decide)
  rw [show ((8 : Nat) : Int) = 8 from rfl] at hl
  rcases hl with h8 | h0
  · have C1 := Lib.hid (rget_l h ok x hx 8 p (by unfold I64; omega) hp')
    unfold wordAt
    generalize (getS L x 8 p).1 = b at C1 h8 ⊢
    generalize (getS L x 8 p).2 = E at C1 ⊢
    have H8 := Lib.hid h8
    clear h ok hx hp'
    go_enter Try.func75, Try.ntmps75
    go_wp2_with fail
    refine (C1.out).mono ?_
    rintro e w1 ⟨v1, rfl, hb1, h1⟩
    obtain ⟨A, c, rfl, hc1, hc2, hs⟩ := hb1.src'
    obtain ⟨bb, off, rfl, hcell⟩ := hs (by intro hn; rw [hn] at h8; cases h8)
    have HC := Lib.hid hcell
    have H1 := Lib.hid h1
    rw [h8]
    clear hb1 h1 hs hcell hc1 hc2 h8
    go_wp2
    go_loopw [10, 11] (fun u i wr => ∃ j : Nat, j ≤ 8 ∧ i = .int .i64 ((j : Int) - 1) ∧ u = .int .u64 ((leS (b.drop j) : Nat) : Int) ∧ Below w1.heap.size w1 wr) (fun _ i _ => (intOf i + 1).toNat)
    case atStart => exact ⟨8, Nat.le_refl _, rfl, by rw [List.drop_of_length_le (by rw [H8.out]; exact Nat.le_refl _)]; rfl, Below.refl _ _⟩
    case round =>
      obtain ⟨j, hj, rfl, rfl, hbel⟩ := hrel
      cases j with
      | zero =>
        have HB := Lib.hid (H1.out.trans (hbel.mono H1.out.size))
        clear hbel
        go_wp2
        go_ret2
        exact ⟨by simp [wordS, wrap64, IntKind.wrap_i64], HB.out⟩
      | succ j =>
        obtain ⟨y, hy⟩ : ∃ y, b[j]? = some y := ⟨b[j]'(by rw [H8.out]; omega), List.getElem?_eq_getElem _⟩
        have c0 : wr.cell? ⟨bb, off + j, none⟩ = some (byC y) := (hbel.cell (p := ⟨bb, off + j, none⟩) (block_lt_of_cell (HC.out j y hy))).trans (HC.out j y hy)
        have hd := leS_drop hy
        have hsm := leS_small H8.out j
        have hyb := y.toNat_lt
        have j1 : (0 : Int) ≤ (j : Int) := by omega
        have j2 : (j : Int) < 8 := by omega
        have j3 : (((j + 1 : Nat) : Int) - 1) = (j : Int) := by omega
        rw [j3]
        clear j3
        have HD := Lib.hid hd; clear hd
        have HB := Lib.hid hbel; clear hbel
        generalize leS (b.drop (j + 1)) = m at HD hsm ⊢
        have u1 : IntKind.u64.wrap ((m : Int) * 256) = (m : Int) * 256 := by rw [IntKind.wrap_u64]; omega
        have u2 : IntKind.u64.wrap ((m : Int) * 256 + (y.toNat : Int)) = (m : Int) * 256 + (y.toNat : Int) := by rw [IntKind.wrap_u64]; omega
        have u3 : IntKind.u64.wrap (y.toNat : Int) = (y.toNat : Int) := by rw [IntKind.wrap_u64]; omega
        unfold byC at c0
        go_wp2
        go_roundw
        case rel => exact ⟨j, by omega, by go_num, by rw [HD.out]; congr 1; push_cast; omega, HB.out⟩
        case measure => simp [intOf]
  · obtain ⟨M, h1, hp⟩ := h
    have hg := getS_perm hp ok x 8 p
    have := rword_nil a F M (each_perm hp ok) x hx p hp' w h1 (by rw [hg]; exact h0)
    unfold wordAt at this ⊢
    rwa [hg] at this

theorem own_rword {B : Nat} {w wr : World} {a : Nat} {L : List Rg} {Y : Res} [hY : Fr Y] (h : Has B w wr (Star (Rf a L) Y)) (x : Int) (hx : I64 x) (p : Int) (hp' : p = 0 ∨ p = 1 ∨ p = 2 ∨ p = 4) :
    Calls Try.prog 75 #[.pointer (some ⟨a, 0, none⟩), .int .i64 x, .int .i64 p] wr fun e w' => e = .returned (.tuple #[.int .i64 (wordAt L x p).1, .int .i64 (wordAt L x p).2]) ∧ Has B w w' (Star (Rf a L) Y) := by
  obtain ⟨F, h1, ok⟩ := h.rsp
  exact (rword_l h1 ok x hx p hp').mono fun e w' ⟨e1, e2⟩ => ⟨e1, h.stay e2⟩

end Go.Proofs.Ytkpaeogjefjbfaa
