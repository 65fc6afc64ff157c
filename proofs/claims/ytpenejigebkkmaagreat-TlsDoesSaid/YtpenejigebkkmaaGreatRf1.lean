/-
  Layer 5: the document's space: Up, Sized, Perm, free, Begins, ranged.
  Layer 5: the document's space: any, use, Get, Word.
  Layer 5: the document's space: Set, SetWord, Protect.
  Layer 5: the document's space: SetWord, Protect.
  Conditions: none. (My own text.)
-/
import Derived.Test.YtpenejigebkkmaaGreatSp6
import Derived.Test.YtpenejigebkkmaaGreatSp5
import Derived.StillTailTactics
namespace Go.Proofs.YtpenejigebkkmaaGreat
open Go.RowKit Spm
set_option linter.unusedVariables false
set_option linter.unusedSimpArgs false

/-- The document's space at block a: the regions as they came. -/
abbrev RSp (w : World) (a : Nat) (F : Nat → Prop) (M : List Rg) : Prop := SpcAt 37 113 w a F M
/-- Regions as they may be, in whatever order. -/
def Each (M : List Rg) : Prop := ∀ r ∈ M, RgOk r

set_option maxRecDepth 100000 in
theorem rup_any (n : Int) (h1 : 1 ≤ n) (h2 : n ≤ 1048576) (w : World) : Calls Tryz.prog 77 #[.int .i64 n] w fun e w' => e = .returned (.int .i64 (up n)) ∧ w = w' := by
  have hu := up_ge n h1
  obtain ⟨u1, u2, u3, u4⟩ := hu
  have hul := up_le n h1 h2
  obtain ⟨U, hU⟩ : ∃ U, up n = U := ⟨_, rfl⟩
  have HU := Lib.hid hU
  rw [hU] at u1 u2 u3 u4 hul ⊢
  clear hU
  go_enter Tryz.func77, Tryz.ntmps77
  go_wp2
  go_loop [0] (fun v => ∃ m : Int, v = .int .i64 m ∧ n ≤ m ∧ m ≤ U) (fun v => (U - intOf v).toNat)
  case atStart => exact ⟨n, rfl, by omega, u1⟩
  case round =>
    obtain ⟨m, rfl, hm1, hm2⟩ := hrel
    by_cases hz : m % 64 = 0
    · obtain rfl : m = U := by omega
      go_wp2
      go_ret
      exact ⟨rfl, rfl⟩
    · have hlt : m < U := by
        rcases Int.lt_or_le m U with h | h
        · exact h
        · exfalso; apply hz; obtain rfl : m = U := by omega
          exact u2
      have ez : (m % 64 == 0) = false := beq_eq_false_iff_ne.2 hz
      have m0 : 0 ≤ m := by omega
      go_wp2
      go_round
      case rel => exact ⟨m + 1, rfl, by omega, by omega⟩
      case measure => simp [intOf]; omega

set_option maxRecDepth 100000 in
theorem sized_yes (n : Int) (h1 : 1 ≤ n) (h2 : n ≤ 1048576) (w : World) : Calls Tryz.prog 66 #[.int .i64 n] w fun e w' => e = .returned (.bool true) ∧ w = w' := by
  go_enter Tryz.func66, Tryz.ntmps66
  go_wp2
  go_ret
  exact ⟨by simp [h2], rfl⟩
set_option maxRecDepth 100000 in
theorem sized_no (n : Int) (h : n < 1 ∨ 1048576 < n) (w : World) : Calls Tryz.prog 66 #[.int .i64 n] w fun e w' => e = .returned (.bool false) ∧ w = w' := by
  rcases Int.lt_or_le n 1 with h1 | h1
  · go_enter Tryz.func66, Tryz.ntmps66
    go_wp2
    go_ret
    exact ⟨by simp, rfl⟩
  · have h2 : ¬ n ≤ 1048576 := by omega
    go_enter Tryz.func66, Tryz.ntmps66
    go_wp2
    go_ret
    exact ⟨by simp [h2], rfl⟩
set_option maxRecDepth 100000 in
theorem perm_yes (p : Int) (h1 : 0 ≤ p) (h2 : p ≤ 7) (w : World) : Calls Tryz.prog 67 #[.int .i64 p] w fun e w' => e = .returned (.bool true) ∧ w = w' := by
  go_enter Tryz.func67, Tryz.ntmps67
  go_wp2
  go_ret
  exact ⟨by simp [h2], rfl⟩
set_option maxRecDepth 100000 in
theorem perm_no (p : Int) (h : p < 0 ∨ 7 < p) (w : World) : Calls Tryz.prog 67 #[.int .i64 p] w fun e w' => e = .returned (.bool false) ∧ w = w' := by
  rcases Int.lt_or_le p 0 with h1 | h1
  · go_enter Tryz.func67, Tryz.ntmps67
    go_wp2
    go_ret
    exact ⟨by simp, rfl⟩
  · have h2 : ¬ p ≤ 7 := by omega
    go_enter Tryz.func67, Tryz.ntmps67
    go_wp2
    go_ret
    exact ⟨by simp [h2], rfl⟩

def FreeR (M : List Rg) (x n : Int) : Prop := 4096 ≤ x ∧ x ≤ 4294967296 - n ∧ ∀ (i : Nat) (r : Rg), M[i]? = some r → ¬ (x < r.at_ + r.sz ∧ r.at_ < x + n)

def FreeE (w : World) (M : List Rg) (x n : Int) (e : Ending) (w' : World) : Prop := ∃ b : Bool, e = .returned (.bool b) ∧ (b = true ↔ FreeR M x n) ∧ Below w.heap.size w w'
set_option maxRecDepth 100000 in
set_option maxHeartbeats 2000000 in
theorem free_any (a : Nat) (F : Nat → Prop) (M : List Rg) (hok : Each M) (hlen : M.length ≤ 67108864) (x n : Int) (hn0 : 0 < n) (hn1 : n ≤ 1048576) (hx : I64 x) (w : World) (h : RSp w a F M) :
    Calls Tryz.prog 78 #[.pointer (some ⟨a, 0, none⟩), .int .i64 x, .int .i64 n] w (FreeE w M x n) := by
  obtain ⟨v, Q, hs, rfl, hF⟩ := h
  obtain ⟨A, cap, rfl, hc0, hcap, hm, hrow⟩ := hs.cells
  have HR := Lib.hid hrow; clear hrow
  have hbox := hs.box.lt
  have hqn : Q.length ≤ 67108864 := by simpa using hlen
  have HOK := Lib.hid hok
  have HLE : Hid ((Q.map (·.1)).length = Q.length) := Lib.hid (by simp)
  clear hs hF hok hlen
  unfold maxLen at hm
  obtain ⟨hx0, hx1⟩ := hx
  by_cases h1 : x < 4096
  · go_enter Tryz.func78, Tryz.ntmps78
    go_wp2
    go_ret
    exact ⟨false, rfl, ⟨fun h => Bool.noConfusion h, fun h => by have := h.1; omega⟩, Below.refl _ _⟩
  by_cases h2 : 4294967296 - n < x
  · go_enter Tryz.func78, Tryz.ntmps78
    go_wp2
    go_ret
    exact ⟨false, rfl, ⟨fun h => Bool.noConfusion h, fun h => by have := h.2.1; omega⟩, Below.refl _ _⟩
  go_enter Tryz.func78, Tryz.ntmps78
  go_wp2
  go_loopw [7] (fun i wr => ∃ k : Nat, k ≤ Q.length ∧ i = .int .i64 k ∧ Hid (∀ (i : Nat) (r : Rg), (Q.map (·.1))[i]? = some r → i < k → ¬ (x < r.at_ + r.sz ∧ r.at_ < x + n)) ∧ Below w.heap.size w wr) (fun i _ => Q.length - (intOf i).toNat)
  case atStart => exact ⟨0, Nat.zero_le _, rfl, Lib.hid (fun i r _ h => by omega), Below.refl _ _⟩
  case round =>
    obtain ⟨k, hk, rfl, hB, hbel⟩ := hrel
    have b0 : wr.cell? ⟨a, 0, none⟩ = some (.slice A Q.length cap) := (hbel.cell (p := ⟨a, 0, none⟩) hbox).trans hc0
    by_cases hlt : k < Q.length
    · obtain ⟨q, hq⟩ : ∃ q, Q[k]? = some q := ⟨Q[k], List.getElem?_eq_getElem hlt⟩
      obtain ⟨g, rfl, hg, hcell⟩ := HR.out k q hq
      have hx : (Q.map (·.1))[k]? = some q.1 := by rw [List.getElem?_map, hq]; rfl
      have HX := Lib.hid hx; clear hx
      have HQ := Lib.hid hq; clear hq
      obtain ⟨⟨qa, qs, qp, qb⟩, qk, qc⟩ := q
      have c0 : wr.cell? ⟨g, k * 4, none⟩ = some (.int .i64 qa) := (hbel.cell (p := ⟨g, k * 4, none⟩) hg).trans (hcell 0 _ rfl)
      have c1 : wr.cell? ⟨g, k * 4 + 1, none⟩ = some (.int .i64 qs) := (hbel.cell (p := ⟨g, k * 4 + 1, none⟩) hg).trans (hcell 1 _ rfl)
      have c2 : wr.cell? ⟨g, k * 4 + 2, none⟩ = some (.int .i64 qp) := (hbel.cell (p := ⟨g, k * 4 + 2, none⟩) hg).trans (hcell 2 _ rfl)
      have c3 : wr.cell? ⟨g, k * 4 + 3, none⟩ = some (.slice (some ⟨qk, 0, none⟩) qb.length qc) := (hbel.cell (p := ⟨g, k * 4 + 3, none⟩) hg).trans (hcell 3 _ rfl)
      clear hcell
      have ho := HOK.out _ (List.mem_of_getElem? HX.out)
      have o1 := ho.lo; have o2 := ho.hi; have o3 := ho.slo
      simp only at o1 o2 o3
      clear ho
      have HBL := Lib.hid (fun o => hbel.alloc hbel.size o); clear hbel
      by_cases t1 : x < qa + qs
      · by_cases t2 : qa < x + n
        · have HN : Hid (¬ FreeR (Q.map (·.1)) x n) := Lib.hid (fun h => h.2.2 k _ HX.out ⟨t1, t2⟩)
          go_wp2
          go_ret
          exact ⟨false, rfl, ⟨fun h => Bool.noConfusion h, fun h => absurd h HN.out⟩, HBL.out _⟩
        · have HN := Lib.hid (fun (h : qa < x + n) => t2 h)
          have HB2 : Hid (∀ (i : Nat) (r : Rg), (Q.map (·.1))[i]? = some r → i < k + 1 → ¬ (x < r.at_ + r.sz ∧ r.at_ < x + n)) := Lib.hid (fun i r hi hik => by
            rcases Nat.lt_or_ge i k with h | h
            · exact hB.out i r hi h
            · have : i = k := by omega
              subst this
              rw [HX.out] at hi; cases hi
              exact fun h => HN.out h.2)
          go_wp2
          go_roundw
          case rel => exact ⟨k + 1, by omega, by go_num, HB2, HBL.out _⟩
          case measure => simp [intOf]; omega
      · have HN := Lib.hid (fun (h : x < qa + qs) => t1 h)
        have HB2 : Hid (∀ (i : Nat) (r : Rg), (Q.map (·.1))[i]? = some r → i < k + 1 → ¬ (x < r.at_ + r.sz ∧ r.at_ < x + n)) := Lib.hid (fun i r hi hik => by
          rcases Nat.lt_or_ge i k with h | h
          · exact hB.out i r hi h
          · have : i = k := by omega
            subst this
            rw [HX.out] at hi; cases hi
            exact fun h => HN.out h.1)
        go_wp2
        go_roundw
        case rel => exact ⟨k + 1, by omega, by go_num, HB2, HBL.out _⟩
        case measure => simp [intOf]; omega
    · have HN : Hid (FreeR (Q.map (·.1)) x n) := Lib.hid ⟨by omega, by omega, fun i r hi => hB.out i r hi (by
        have := (List.getElem?_eq_some_iff.1 hi).1
        have := HLE.out
        omega)⟩
      go_wp2
      go_ret
      exact ⟨true, rfl, ⟨fun _ => HN.out, fun _ => rfl⟩, hbel⟩

/-- The place of the region that begins at an address; -1: none does. -/
def begI (M : List Rg) (x : Int) : Int := if findS M x < M.length then findS M x else -1
set_option maxRecDepth 100000 in
set_option maxHeartbeats 1000000 in
theorem begins_any (a : Nat) (F : Nat → Prop) (M : List Rg) (at_ : Int) (w : World) (h : RSp w a F M) : Calls Tryz.prog 65 #[.pointer (some ⟨a, 0, none⟩), .int .i64 at_] w fun e w' => e = .returned (.int .i64 (begI M at_)) ∧ Below w.heap.size w w' := by
  obtain ⟨v, Q, hs, rfl, hF⟩ := h
  obtain ⟨A, cap, rfl, hc0, hcap, hm, hrow⟩ := hs.cells
  have HR := Lib.hid hrow; clear hrow
  have hbox := hs.box.lt
  clear hs hF
  unfold maxLen at hm
  have HL : Hid ((Q.map (·.1)).length = Q.length) := Lib.hid (by simp)
  go_enter Tryz.func65, Tryz.ntmps65
  go_wp2
  go_loopw [5] (fun i wr => ∃ k : Nat, k ≤ Q.length ∧ i = .int .i64 k ∧ k ≤ findS (Q.map (·.1)) at_ ∧ Below w.heap.size w wr) (fun i _ => Q.length - (intOf i).toNat)
  case atStart => exact ⟨0, Nat.zero_le _, rfl, Nat.zero_le _, Below.refl _ _⟩
  case round =>
    obtain ⟨k, hk, rfl, hf, hbel⟩ := hrel
    have b0 : wr.cell? ⟨a, 0, none⟩ = some (.slice A Q.length cap) := (hbel.cell (p := ⟨a, 0, none⟩) hbox).trans hc0
    have HF := Lib.hid hf; clear hf
    by_cases hlt : k < Q.length
    · obtain ⟨q, hq⟩ : ∃ q, Q[k]? = some q := ⟨Q[k], List.getElem?_eq_getElem hlt⟩
      obtain ⟨g, rfl, hg, hcell⟩ := HR.out k q hq
      have hx : (Q.map (·.1))[k]? = some q.1 := by rw [List.getElem?_map, hq]; rfl
      have HX := Lib.hid hx; clear hx
      have HQ := Lib.hid hq; clear hq
      obtain ⟨⟨qa, qs, qp, qb⟩, qk, qc⟩ := q
      have c0 : wr.cell? ⟨g, k * 4, none⟩ = some (.int .i64 qa) := (hbel.cell (p := ⟨g, k * 4, none⟩) hg).trans (hcell 0 _ rfl)
      have c1 : wr.cell? ⟨g, k * 4 + 1, none⟩ = some (.int .i64 qs) := (hbel.cell (p := ⟨g, k * 4 + 1, none⟩) hg).trans (hcell 1 _ rfl)
      have c2 : wr.cell? ⟨g, k * 4 + 2, none⟩ = some (.int .i64 qp) := (hbel.cell (p := ⟨g, k * 4 + 2, none⟩) hg).trans (hcell 2 _ rfl)
      have c3 : wr.cell? ⟨g, k * 4 + 3, none⟩ = some (.slice (some ⟨qk, 0, none⟩) qb.length qc) := (hbel.cell (p := ⟨g, k * 4 + 3, none⟩) hg).trans (hcell 3 _ rfl)
      clear hcell
      have HB := Lib.hid hbel; clear hbel
      cases he : (qa == at_)
      · have HN := Lib.hid (findIdx_miss HF.out HX.out he)
        go_wp2
        go_roundw
        case rel => exact ⟨k + 1, by omega, by go_num, HN.out, HB.out⟩
        case measure => simp [intOf]; omega
      · have HN : Hid (findS (Q.map (·.1)) at_ = k) := Lib.hid (findIdx_hit HF.out HX.out he)
        go_wp2
        go_ret
        exact ⟨ret_int (by rw [begI, HN.out, if_pos (by have := HL.out; omega)]), HB.out⟩
    · have HN : Hid (¬ findS (Q.map (·.1)) at_ < (Q.map (·.1)).length) := Lib.hid (by have := HF.out; have := HL.out; omega)
      go_wp2
      go_ret
      exact ⟨ret_int (by rw [begI, if_neg HN.out]), hbel⟩

/-- What is wrong with a range, of a size that may be. -/
def rangE (M : List Rg) (x n p : Int) : Int := if n < 1 ∨ 1048576 < n then 1 else partS M x n.toNat p
def rangI (M : List Rg) (x n p : Int) : Int := if rangE M x n p = 0 then partK M x else 0
theorem rang_hit {M : List Rg} {x : Int} {n : Nat} {p : Int} {k : Nat} {r : Rg} (h1 : 1 ≤ n) (h2 : n ≤ 1048576) (hk : k ≤ partK M x) (hr : M[k]? = some r) (hin : inside x r = true) :
    rangE M x n p = (if r.sz - (x - r.at_) < n then 50 else if has r.pm p = false then 52 else 0) ∧ partK M x = k := by
  have e := findIdx_hit hk hr hin
  have e' : partK M x = k := e
  refine ⟨?_, e'⟩
  unfold rangE
  rw [if_neg (by omega), Int.toNat_natCast, partS_some (by rw [e']; exact hr)]
theorem rang_none {M : List Rg} {x : Int} {n : Nat} {p : Int} (h1 : 1 ≤ n) (h2 : n ≤ 1048576) (hk : M.length ≤ partK M x) : rangE M x n p = 50 := by
  unfold rangE
  rw [if_neg (by omega), Int.toNat_natCast, partS_none hk]

theorem rangE_bad {M : List Rg} {x n p : Int} (h : n < 1 ∨ 1048576 < n) : rangE M x n p = 1 := by unfold rangE; rw [if_pos h]
theorem rangI_bad {M : List Rg} {x n p : Int} (h : n < 1 ∨ 1048576 < n) : rangI M x n p = 0 := by unfold rangI; rw [rangE_bad h, if_neg (by decide)]

set_option maxRecDepth 100000 in
set_option maxHeartbeats 2000000 in
theorem ranged_any (a : Nat) (F : Nat → Prop) (M : List Rg) (hok : Each M) (x : Int) (hx : I64 x) (n p : Int) (hn : I64 n) (hp : p = 1 ∨ p = 2 ∨ p = 4) (w : World) (h : RSp w a F M) :
    Calls Tryz.prog 71 #[.pointer (some ⟨a, 0, none⟩), .int .i64 x, .int .i64 n, .int .i64 p] w fun e w' => e = .returned (.tuple #[.int .i64 (rangI M x n p), .int .i64 (rangE M x n p)]) ∧ Below w.heap.size w w' := by
  obtain ⟨hn0, hn1⟩ := hn
  by_cases hn2 : n < 1
  · rw [rangI_bad (.inl hn2), rangE_bad (.inl hn2)]
    clear h hok
    go_enter Tryz.func71, Tryz.ntmps71
    go_wp2
    go_ret2
    exact ⟨rfl, Below.refl _ _⟩
  by_cases hn3 : 1048576 < n
  · rw [rangI_bad (.inr hn3), rangE_bad (.inr hn3)]
    clear h hok
    go_enter Tryz.func71, Tryz.ntmps71
    go_wp2
    go_ret2
    exact ⟨rfl, Below.refl _ _⟩
  obtain ⟨m, rfl⟩ : ∃ m : Nat, n = m := ⟨n.toNat, by omega⟩
  obtain ⟨v, Q, hs, rfl, hF⟩ := h
  obtain ⟨A, cap, rfl, hc0, hcap, hm, hrow⟩ := hs.cells
  have HR := Lib.hid hrow; clear hrow
  have hbox := hs.box.lt
  clear hs hF
  have HOK := Lib.hid hok; clear hok
  unfold maxLen at hm
  obtain ⟨hx0, hx1⟩ := hx
  have HL : Hid ((Q.map (·.1)).length = Q.length) := Lib.hid (by simp)
  have HP := Lib.hid hp
  have hp0 : 1 ≤ p := by rcases hp with h | h | h <;> omega
  have hp1 : p ≤ 4 := by rcases hp with h | h | h <;> omega
  clear hp
  go_enter Tryz.func71, Tryz.ntmps71
  go_wp2
  go_loopw [10] (fun i wr => ∃ k : Nat, k ≤ Q.length ∧ i = .int .i64 k ∧ k ≤ partK (Q.map (·.1)) x ∧ Below w.heap.size w wr) (fun i _ => Q.length - (intOf i).toNat)
  case atStart => exact ⟨0, Nat.zero_le _, rfl, Nat.zero_le _, Below.refl _ _⟩
  case round =>
    obtain ⟨k, hk, rfl, hf, hbel⟩ := hrel
    have b0 : wr.cell? ⟨a, 0, none⟩ = some (.slice A Q.length cap) := (hbel.cell (p := ⟨a, 0, none⟩) hbox).trans hc0
    have HF := Lib.hid hf; clear hf
    by_cases hlt : k < Q.length
    · obtain ⟨q, hq⟩ : ∃ q, Q[k]? = some q := ⟨Q[k], List.getElem?_eq_getElem hlt⟩
      obtain ⟨g, rfl, hg, hcell⟩ := HR.out k q hq
      have hx : (Q.map (·.1))[k]? = some q.1 := by rw [List.getElem?_map, hq]; rfl
      have HX := Lib.hid hx; clear hx
      have HQ := Lib.hid hq; clear hq
      obtain ⟨⟨qa, qs, qp, qb⟩, qk, qc⟩ := q
      have c0 : wr.cell? ⟨g, k * 4, none⟩ = some (.int .i64 qa) := (hbel.cell (p := ⟨g, k * 4, none⟩) hg).trans (hcell 0 _ rfl)
      have c1 : wr.cell? ⟨g, k * 4 + 1, none⟩ = some (.int .i64 qs) := (hbel.cell (p := ⟨g, k * 4 + 1, none⟩) hg).trans (hcell 1 _ rfl)
      have c2 : wr.cell? ⟨g, k * 4 + 2, none⟩ = some (.int .i64 qp) := (hbel.cell (p := ⟨g, k * 4 + 2, none⟩) hg).trans (hcell 2 _ rfl)
      have c3 : wr.cell? ⟨g, k * 4 + 3, none⟩ = some (.slice (some ⟨qk, 0, none⟩) qb.length qc) := (hbel.cell (p := ⟨g, k * 4 + 3, none⟩) hg).trans (hcell 3 _ rfl)
      clear hcell
      have ho := HOK.out _ (List.mem_of_getElem? HX.out)
      have o1 := ho.lo; have o2 := ho.hi; have o3 := ho.slo; have o4 := ho.p0; have o5 := ho.p7
      simp only at o1 o2 o3 o4 o5
      clear ho
      have HBL := Lib.hid (fun o => hbel.alloc hbel.size o); clear hbel
      by_cases t1 : x < qa
      · have HN := Lib.hid (findIdx_miss (p := inside x) HF.out HX.out (by unfold inside; simp; omega))
        go_wp2
        go_roundw
        case rel => exact ⟨k + 1, by omega, by go_num, HN.out, HBL.out _⟩
        case measure => simp [intOf]; omega
      by_cases t2 : qa + qs ≤ x
      · have HN := Lib.hid (findIdx_miss (p := inside x) HF.out HX.out (by unfold inside; simp; omega))
        go_wp2
        go_roundw
        case rel => exact ⟨k + 1, by omega, by go_num, HN.out, HBL.out _⟩
        case measure => simp [intOf]; omega
      have hh := rang_hit (n := m) (p := p) (by omega) (by omega) HF.out HX.out (inside_of (by simp only; omega) (by simp only; omega))
      simp only at hh
      by_cases t3 : qs - (x - qa) < m
      · rw [if_pos t3] at hh
        have HH := Lib.hid hh; clear hh
        have t3' : qa + qs - x < (m : Int) := by omega
        go_wp2
        go_ret2
        exact ⟨by rw [rangI, HH.out.1]; rfl, HBL.out _⟩
      rw [if_neg t3] at hh
      have t3' : ¬ qa + qs - x < (m : Int) := by omega
      have hd : has qp p = decide (qp / p % 2 = 1) := by unfold has; simp; omega
      rw [hd] at hh
      have hq0 : 0 ≤ qp / p := Int.ediv_nonneg o4 (by omega)
      by_cases t4 : qp / p % 2 = 0
      · rw [if_pos (by simp; omega)] at hh
        have HH := Lib.hid hh; clear hh hd
        go_wp2
        go_ret2
        exact ⟨by rw [rangI, HH.out.1]; rfl, HBL.out _⟩
      · rw [if_neg (by simp; omega)] at hh
        have HH := Lib.hid hh; clear hh hd
        have t5 : (qp / p % 2 == 0) = false := beq_eq_false_iff_ne.2 t4
        go_wp2
        go_ret2
        exact ⟨by rw [rangI, HH.out.1, HH.out.2]; rfl, HBL.out _⟩
    · have HN : Hid (rangE (Q.map (·.1)) x m p = 50) := Lib.hid (rang_none (by omega) (by omega) (by have := HF.out; have := HL.out; omega))
      go_wp2
      go_ret2
      exact ⟨by rw [rangI, HN.out]; rfl, hbel⟩
end Go.Proofs.YtpenejigebkkmaaGreat

namespace Go.Proofs.YtpenejigebkkmaaGreat
open Go.RowKit Spm
set_option linter.unusedVariables false
set_option linter.unusedSimpArgs false

theorem has_zero (pm : Int) : has pm 0 = true := by unfold has; simp
theorem rang_any {M : List Rg} {x n p : Int} (h : rangE M x n p ≠ 52) : rangE M x n 0 = rangE M x n p := by
  unfold rangE at h ⊢
  split
  · rfl
  · rename_i hn
    rw [if_neg hn] at h
    unfold partS at h ⊢
    split
    · rfl
    · rename_i r hr
      split
      · rfl
      · rename_i h2
        rw [hr] at h
        simp only [if_neg h2] at h
        split at h
        · exact absurd rfl h
        · rename_i h3
          rw [if_neg h3, if_neg (by rw [has_zero]; decide)]
theorem rangI_any {M : List Rg} {x n p : Int} (h : rangE M x n p ≠ 52) : rangI M x n 0 = rangI M x n p := by
  unfold rangI; rw [rang_any h]
/-- No permission at all is wanted, and none of the three is there. -/
theorem rang_none3 {M : List Rg} {x n : Int} (h : rangE M x n 1 = 52) : rangE M x n 0 = 0 ∧ ∃ r, M[partK M x]? = some r ∧ inside x r = true := by
  unfold rangE at h ⊢
  split at h
  · simp at h
  · rename_i hn
    rw [if_neg hn]
    unfold partS at h ⊢
    split at h
    · simp at h
    · rename_i r hr
      split at h
      · simp at h
      · rename_i h2
        rw [hr]
        simp only [if_neg h2]
        refine ⟨by rw [if_neg (by rw [has_zero]; decide)], r, rfl, ?_⟩
        obtain ⟨hl, he⟩ := List.getElem?_eq_some_iff.1 hr
        have := List.findIdx_getElem (p := inside x) (xs := M) (w := hl)
        rw [← he]; exact this
theorem rang_big {M : List Rg} {x n : Int} (h : rangE M x n 1 = 52) : 1 ≤ n ∧ n ≤ 1048576 := by
  unfold rangE at h
  split at h
  · simp at h
  · omega

set_option maxRecDepth 100000 in
set_option maxHeartbeats 4000000 in
theorem rany_any (a : Nat) (F : Nat → Prop) (M : List Rg) (hok : Each M) (x : Int) (hx : I64 x) (n : Int) (hn : I64 n) (w : World) (h : RSp w a F M) :
    Calls Tryz.prog 70 #[.pointer (some ⟨a, 0, none⟩), .int .i64 x, .int .i64 n] w fun e w' => e = .returned (.tuple #[.int .i64 (rangI M x n 0), .int .i64 (rangE M x n 0)]) ∧ Below w.heap.size w w' := by
  have C1 := Lib.hid (fun (w1 : World) (hb : Below w.heap.size w w1) (p : Int) (hp : p = 1 ∨ p = 2 ∨ p = 4) => ranged_any a F M hok x hx n p hn hp w1 (h.stay hb))
  obtain ⟨v, Q, hs, rfl, hF⟩ := h
  obtain ⟨A, cap, rfl, hc0, hcap, hm, hrow⟩ := hs.cells
  have HR := Lib.hid hrow; clear hrow
  have hbox := hs.box.lt
  have HOK := Lib.hid hok
  have HL : Hid ((Q.map (·.1)).length = Q.length) := Lib.hid (by simp)
  unfold maxLen at hm
  obtain ⟨hx0, hx1⟩ := hx
  clear hs hF hok hn
  have hbk := Blk.new w 70 #[.int .i64 1, .int .i64 2, .int .i64 4]
  have hbw : Below w.heap.size w (w.alloc (.cells #[.int .i64 1, .int .i64 2, .int .i64 4] 70)) := (Below.refl _ _).alloc (Nat.le_refl _) _
  obtain ⟨W, hW⟩ : ∃ W, w.alloc (.cells #[.int .i64 1, .int .i64 2, .int .i64 4] 70) = W := ⟨_, rfl⟩
  rw [hW] at hbk hbw
  have HW := Lib.hid hW
  have HBK := Lib.hid hbk
  have HBW := Lib.hid hbw
  clear hbk hbw hW
  go_enter Tryz.func70, Tryz.ntmps70
  go_wp2_with fail
  rw [HW.out]
  go_loopw [15] (fun i wr => ∃ k : Nat, k ≤ 3 ∧ i = .int .i64 k ∧ Hid (0 < k → rangE (Q.map (·.1)) x n 1 = 52) ∧ Below W.heap.size W wr) (fun i _ => 3 - (intOf i).toNat)
  case atStart => exact ⟨0, by omega, rfl, Lib.hid (fun h => by omega), Below.refl _ _⟩
  case round =>
    obtain ⟨k, hk, rfl, hE, hbel⟩ := hrel
    have p0 : wr.cell? ⟨w.heap.size, 0, none⟩ = some (.int .i64 1) := (hbel.cell (p := ⟨w.heap.size, 0, none⟩) HBK.out.lt).trans (HBK.out.cell 0)
    have p1 : wr.cell? ⟨w.heap.size, 1, none⟩ = some (.int .i64 2) := (hbel.cell (p := ⟨w.heap.size, 1, none⟩) HBK.out.lt).trans (HBK.out.cell 1)
    have p2 : wr.cell? ⟨w.heap.size, 2, none⟩ = some (.int .i64 4) := (hbel.cell (p := ⟨w.heap.size, 2, none⟩) HBK.out.lt).trans (HBK.out.cell 2)
    have HB := Lib.hid hbel; clear hbel
    have HBA : Hid (Below w.heap.size w wr) := Lib.hid (HBW.out.trans (HB.out.mono HBW.out.size))
    by_cases hlt : k < 3
    · have hkk : ∃ p : Int, (p = 1 ∨ p = 2 ∨ p = 4) ∧ (k = 0 → p = 1) ∧ wr.cell? ⟨w.heap.size, k, none⟩ = some (.int .i64 p) := by
        match k, hlt with
        | 0, _ => exact ⟨1, .inl rfl, fun _ => rfl, p0⟩
        | 1, _ => exact ⟨2, .inr (.inl rfl), fun h => by omega, p1⟩
        | 2, _ => exact ⟨4, .inr (.inr rfl), fun h => by omega, p2⟩
      obtain ⟨p, hp, hp1, hc⟩ := hkk
      clear p0 p1 p2
      have C2 := Lib.hid (C1.out _ HBA.out p hp)
      have HP := Lib.hid hp; clear hp
      have HP1 := Lib.hid hp1; clear hp1
      have k1 : (k : Int) < 3 := by omega
      have k2 : (0 : Int) ≤ (k : Int) := by omega
      go_wp2_with fail
      refine (C2.out).mono ?_
      rintro e w2 ⟨rfl, h2⟩
      have H2 := Lib.hid h2; clear h2
      by_cases h52 : rangE (Q.map (·.1)) x n p = 52
      · have HE2 : Hid (0 < k + 1 → rangE (Q.map (·.1)) x n 1 = 52) := Lib.hid (fun _ => by
          rcases Nat.eq_zero_or_pos k with h | h
          · have := HP1.out h; subst this; exact h52
          · exact hE.out h)
        rw [h52]
        clear h52
        go_wp2
        go_roundw
        case rel => exact ⟨k + 1, by omega, by go_num, HE2, HB.out.trans (H2.out.mono HB.out.size)⟩
        case measure => simp [intOf]; omega
      · have e52 : (rangE (Q.map (·.1)) x n p == 52) = false := beq_eq_false_iff_ne.2 h52
        have HR1 := Lib.hid (rang_any h52)
        have HR2 := Lib.hid (rangI_any h52)
        clear h52
        go_wp2
        go_ret2
        exact ⟨by rw [HR1.out, HR2.out]; rfl, HBA.out.trans (H2.out.mono HBA.out.size)⟩
    · clear p0 p1 p2
      have h52 := hE.out (by omega)
      obtain ⟨z1, r, hr, hin⟩ := rang_none3 h52
      have HZ := Lib.hid z1
      have HRR := Lib.hid (And.intro hr hin)
      clear h52 z1 hr hin C1
      go_wp2_with fail
      obtain ⟨wo, rfl⟩ : ∃ wo : World, wo = wr := ⟨_, rfl⟩
      go_loopw [12] (fun i wr => ∃ j : Nat, j ≤ Q.length ∧ i = .int .i64 j ∧ j ≤ partK (Q.map (·.1)) x ∧ Below w.heap.size w wr) (fun i _ => Q.length - (intOf i).toNat)
      case atStart => exact ⟨0, Nat.zero_le _, rfl, Nat.zero_le _, HBA.out⟩
      case round =>
        obtain ⟨j, hj, rfl, hf, hbel⟩ := hrel
        have hjl : j < Q.length := by
          have h1 := (List.getElem?_eq_some_iff.1 HRR.out.1).1
          have := HL.out
          omega
        have b0 : wr.cell? ⟨a, 0, none⟩ = some (.slice A Q.length cap) := (hbel.cell (p := ⟨a, 0, none⟩) hbox).trans hc0
        have HF := Lib.hid hf; clear hf
        obtain ⟨q, hq⟩ : ∃ q, Q[j]? = some q := ⟨Q[j], List.getElem?_eq_getElem hjl⟩
        obtain ⟨g, rfl, hg, hcell⟩ := HR.out j q hq
        have hx : (Q.map (·.1))[j]? = some q.1 := by rw [List.getElem?_map, hq]; rfl
        have HX := Lib.hid hx; clear hx
        have HQ := Lib.hid hq; clear hq
        obtain ⟨⟨qa, qs, qp, qb⟩, qk, qc⟩ := q
        have c0 : wr.cell? ⟨g, j * 4, none⟩ = some (.int .i64 qa) := (hbel.cell (p := ⟨g, j * 4, none⟩) hg).trans (hcell 0 _ rfl)
        have c1 : wr.cell? ⟨g, j * 4 + 1, none⟩ = some (.int .i64 qs) := (hbel.cell (p := ⟨g, j * 4 + 1, none⟩) hg).trans (hcell 1 _ rfl)
        have c2 : wr.cell? ⟨g, j * 4 + 2, none⟩ = some (.int .i64 qp) := (hbel.cell (p := ⟨g, j * 4 + 2, none⟩) hg).trans (hcell 2 _ rfl)
        have c3 : wr.cell? ⟨g, j * 4 + 3, none⟩ = some (.slice (some ⟨qk, 0, none⟩) qb.length qc) := (hbel.cell (p := ⟨g, j * 4 + 3, none⟩) hg).trans (hcell 3 _ rfl)
        clear hcell
        have ho := HOK.out _ (List.mem_of_getElem? HX.out)
        have o1 := ho.lo; have o2 := ho.hi; have o3 := ho.slo
        simp only at o1 o2 o3
        clear ho
        have HBL := Lib.hid hbel; clear hbel
        have j1 : (0 : Int) ≤ (j : Int) := by omega
        have j2 : (j : Int) < (Q.length : Int) := by omega
        by_cases t1 : x < qa
        · have HN := Lib.hid (findIdx_miss (p := inside x) HF.out HX.out (by unfold inside; simp; omega))
          have d1 : decide (qa ≤ x) = false := by simp; omega
          go_wp2_with fail
          go_quiet (fail)
          go_wp2
          go_roundw
          case rel => exact ⟨j + 1, by omega, by go_num, HN.out, below_drewN HBL.out _⟩
          case measure => simp [intOf]; omega
        · have d1 : qa ≤ x := by omega
          have hw1 : IntKind.i64.wrap (qa + qs) = qa + qs := IntWalk.i64_in _ (by omega)
          by_cases t2 : qa + qs ≤ x
          · have HN := Lib.hid (findIdx_miss (p := inside x) HF.out HX.out (by unfold inside; simp; omega))
            have d2 : ¬ x < qa + qs := by omega
            go_wp2_with fail
            go_quiet (fail)
            go_wp2
            go_roundw
            case rel => exact ⟨j + 1, by omega, by go_num, HN.out, below_drewN HBL.out _⟩
            case measure => simp [intOf]; omega
          · have d2 : x < qa + qs := by omega
            have HK : Hid (partK (Q.map (·.1)) x = j) := Lib.hid (findIdx_hit HF.out HX.out (inside_of (by simp only; omega) (by simp only; omega)))
            go_wp2_with fail
            go_quiet (fail)
            go_wp2
            go_ret2
            exact ⟨by rw [HZ.out, rangI, HZ.out, if_pos rfl, HK.out]; rfl, below_drewN HBL.out _⟩

set_option maxRecDepth 100000 in
theorem use_any (a : Nat) (F : Nat → Prop) (M : List Rg) (hok : Each M) (x : Int) (hx : I64 x) (n p : Int) (hn : I64 n) (hp : p = 0 ∨ p = 1 ∨ p = 2 ∨ p = 4) (w : World) (h : RSp w a F M) :
    Calls Tryz.prog 57 #[.pointer (some ⟨a, 0, none⟩), .int .i64 x, .int .i64 n, .int .i64 p] w fun e w' => e = .returned (.tuple #[.int .i64 (rangI M x n p), .int .i64 (rangE M x n p)]) ∧ Below w.heap.size w w' := by
  rcases hp with rfl | hp
  · have C1 := Lib.hid (rany_any a F M hok x hx n hn w h)
    clear h hok
    go_enter Tryz.func57, Tryz.ntmps57
    go_wp2_with fail
    refine (C1.out).mono ?_
    rintro e w1 ⟨rfl, h1⟩
    have H1 := Lib.hid h1; clear h1
    go_wp2
    go_ret2
    exact ⟨rfl, H1.out⟩
  · have C1 := Lib.hid (ranged_any a F M hok x hx n p hn hp w h)
    have ep : (p == 0) = false := beq_eq_false_iff_ne.2 (by rcases hp with h | h | h <;> omega)
    clear h hok hp
    go_enter Tryz.func57, Tryz.ntmps57
    go_wp2_with fail
    refine (C1.out).mono ?_
    rintro e w1 ⟨rfl, h1⟩
    have H1 := Lib.hid h1; clear h1
    go_wp2
    go_ret2
    exact ⟨rfl, H1.out⟩

theorem get_rang (M : List Rg) (x n p : Int) : (getS M x n p).2 = rangE M x n p := by rw [get_err]; rfl
theorem get_none {M : List Rg} {x n p : Int} (h : rangE M x n p ≠ 0) : (getS M x n p).1 = [] := by
  unfold rangE at h
  split at h
  · rename_i hn; rw [getS_arg hn]
  · rename_i hn
    unfold getS
    rw [if_neg hn, if_pos h]
/-- A range that may be used: its region. -/
theorem rang_ok {M : List Rg} {x n p : Int} (h : rangE M x n p = 0) : 1 ≤ n ∧ n ≤ 1048576 ∧ rangI M x n p = partK M x ∧ ∃ r, M[partK M x]? = some r ∧ inside x r = true ∧ ¬ r.sz - (x - r.at_) < n ∧ (getS M x n p).1 = (r.bs.drop (x - r.at_).toNat).take n.toNat := by
  have hI : rangI M x n p = partK M x := by unfold rangI; rw [if_pos h]
  unfold rangE at h
  split at h
  · simp at h
  · rename_i hn
    obtain ⟨r, hr, hrn, _, hin⟩ := partS_ok h
    refine ⟨by omega, by omega, hI, r, hr, hin, by omega, ?_⟩
    have e := getS_ok (n := n.toNat) (by omega) (by omega) h hr
    rw [show ((n.toNat : Nat) : Int) = n by omega] at e
    rw [e]

set_option maxRecDepth 100000 in
set_option maxHeartbeats 2000000 in
theorem rget_any (a : Nat) (F : Nat → Prop) (M : List Rg) (hok : Each M) (x : Int) (hx : I64 x) (n p : Int) (hn : I64 n) (hp : p = 0 ∨ p = 1 ∨ p = 2 ∨ p = 4) (w : World) (h : RSp w a F M) :
    Calls Tryz.prog 42 #[.pointer (some ⟨a, 0, none⟩), .int .i64 x, .int .i64 n, .int .i64 p] w (GotB w.heap.size (getS M x n p).1 (getS M x n p).2 w) := by
  have C1 := Lib.hid (use_any a F M hok x hx n p hn hp w h)
  rw [get_rang]
  by_cases hE : rangE M x n p = 0
  · obtain ⟨n1, n2, hI, r, hr, hin, hrn, hg⟩ := rang_ok hE
    rw [hI, hE] at C1
    rw [hE, hg]
    clear hg hI hE
    obtain ⟨v, Q, hs, rfl, hF⟩ := h
    obtain ⟨A, cap, rfl, hc0, hcap, hm, hrow⟩ := hs.cells
    have HR := Lib.hid hrow; clear hrow
    have hbox := hs.box.lt
    obtain ⟨k, hk⟩ : ∃ k, partK (Q.map (·.1)) x = k := ⟨_, rfl⟩
    rw [hk] at hr C1
    obtain ⟨q, hq⟩ : ∃ q, Q[k]? = some q := by
      rw [List.getElem?_map] at hr
      cases hq : Q[k]? with
      | none => rw [hq] at hr; cases hr
      | some q => exact ⟨q, rfl⟩
    have hlt := (List.getElem?_eq_some_iff.1 hq).1
    have hqr : q.1 = r := by rw [List.getElem?_map, hq] at hr; simpa using hr
    obtain ⟨g, rfl, hg, hcell⟩ := HR.out k q hq
    have hby := hs.bys (List.mem_of_getElem? hq)
    have ho := hok q.1 (List.mem_map.2 ⟨q, List.mem_of_getElem? hq, rfl⟩)
    obtain ⟨i1, i2⟩ := inside_iff hin
    obtain ⟨⟨qa, qs, qp, qb⟩, qk, qc⟩ := q
    subst hqr
    simp only at hby ho i1 i2 hrn ⊢
    have o1 := ho.lo; have o2 := ho.hi; have o3 := ho.slo; have o4 := ho.len
    simp only at o1 o2 o3 o4
    obtain ⟨b1, b2, b3, b4⟩ := hby
    unfold maxLen at b3 hm
    obtain ⟨m, rfl⟩ : ∃ m : Nat, n = m := ⟨n.toNat, by omega⟩
    obtain ⟨o, rfl⟩ : ∃ o : Nat, x = qa + (o : Int) := ⟨(x - qa).toNat, by omega⟩
    have ho' : (qa + (o : Int) - qa).toNat = o := by omega
    rw [ho', Int.toNat_natCast]
    have hcl : (((qb.drop o).take m).map byC).length = m * 1 := by simp; omega
    have hml : ((qb.drop o).take m).length = m := by simp; omega
    have HCC := Lib.hid (fun (w1 : World) (hb : Below w.heap.size w w1) (j : Nat) (u : Value) (hj : (((qb.drop o).take m).map byC)[j]? = some u) => (show w1.cell? ⟨qk, o + j, none⟩ = some u from by
      rw [List.getElem?_map] at hj
      cases hxj : ((qb.drop o).take m)[j]? with
      | none => rw [hxj] at hj; cases hj
      | some y =>
        rw [hxj] at hj
        have hu : byC y = u := by simpa using hj
        subst hu
        rw [List.getElem?_take] at hxj
        split at hxj
        · rw [List.getElem?_drop] at hxj
          exact (hb.cell (p := ⟨qk, o + j, none⟩) b1).trans (b4 _ _ hxj)
        · cases hxj))
    have HML := Lib.hid hml
    have HCL := Lib.hid hcl
    obtain ⟨i0, hi, hz0, hz1, hz2⟩ := info_parts cloneB_info
    have HI := Lib.hid (And.intro hi (And.intro hz0 (And.intro hz1 hz2)))
    have H1c := Lib.hid (byC_one ((qb.drop o).take m))
    generalize (qb.drop o).take m = l at HML HCL HCC H1c ⊢
    have he : qa + (o : Int) - qa = (o : Int) := by omega
    have m1 : (1 : Int) ≤ (m : Int) := by omega
    have m2 : (m : Int) ≤ 1048576 := by omega
    have oq : o + m ≤ qc := by omega
    have oqb : o + m ≤ qb.length := by omega
    have k1 : (k : Int) < (Q.length : Int) := by omega
    have k0 : (0 : Int) ≤ (k : Int) := by omega
    have mq : m ≤ 1048576 := by omega
    have hne : ¬ qc = o := by omega
    have hne2 : ¬ o = qc := by omega
    have m0 : 0 < m := by omega
    have HH := Lib.hid hcell
    clear hcell hs hF hok hin i1 i2 ho hq hr hk hml hcl hi hz0 hz1 hz2 b4 hrn ho' HR
    go_enter Tryz.func42, Tryz.ntmps42
    go_wp2_with fail
    refine (C1.out).mono ?_
    rintro e w1 ⟨rfl, hbel⟩
    have b0 : w1.cell? ⟨a, 0, none⟩ = some (.slice (some ⟨g, 0, none⟩) Q.length cap) := (hbel.cell (p := ⟨a, 0, none⟩) hbox).trans hc0
    have c0 : w1.cell? ⟨g, k * 4, none⟩ = some (.int .i64 qa) := (hbel.cell (p := ⟨g, k * 4, none⟩) hg).trans (HH.out 0 _ rfl)
    have c3 : w1.cell? ⟨g, k * 4 + 3, none⟩ = some (.slice (some ⟨qk, 0, none⟩) qb.length qc) := (hbel.cell (p := ⟨g, k * 4 + 3, none⟩) hg).trans (HH.out 3 _ rfl)
    have HB := Lib.hid hbel; clear hbel
    have hom : o + m - o = m := by omega
    have HOM := Lib.hid hom; clear hom
    go_wp2_with (at_builtin; refine wpList_append_own _ rfl _ _ 38 rfl w.heap.size 5 i0 (.int .u8 0) 1 1 Tryz.underlying38 HI.out.1 HI.out.2.1 HI.out.2.2.1 HI.out.2.2.2 rfl (by decide) _ 0 [] rfl (World.ownsRow_nil _ _ _ _) ⟨qk, o, none⟩ (o + m - o) (qc - o) (l.map byC) rfl ?qc1 ?qc2 ?qc3 ?qc4 ?qc5 ?qc6 ?_)
    case qc1 => rw [HOM.out]; exact HCL.out
    case qc2 =>
      intro j u hj
      rw [Addr.add_lit]
      exact HCC.out _ HB.out j u hj
    case qc3 => exact H1c.out
    case qc4 => unfold maxLen; omega
    case qc5 => omega
    case qc6 => exact HB.out.size
    intro v' w2 hown hgrow hnil
    have H2 : Hid (Below w.heap.size w w2) := Lib.hid (HB.out.grown hgrow HB.out.size (by intro k hk; simp [Value.ownBlock] at hk))
    have HO2 : Hid (Bys w2 w.heap.size v' l) := Lib.hid (by unfold Bys; rw [HML.out]; simpa using hown)
    clear hown hgrow hnil
    go_wp2
    go_ret2
    exact GotB.mk HO2.out H2.out
  · have HN := Lib.hid (get_none hE)
    have eE : (rangE M x n p == 0) = false := beq_eq_false_iff_ne.2 hE
    generalize rangE M x n p = E at *
    clear h hok hE
    go_enter Tryz.func42, Tryz.ntmps42
    go_wp2_with fail
    refine (C1.out).mono ?_
    rintro e w1 ⟨rfl, h1⟩
    have H1 := Lib.hid h1; clear h1
    go_wp2
    go_ret2
    rw [HN.out]
    exact GotB.nil H1.out

/-! Word: the bytes from the last on. -/
end Go.Proofs.YtpenejigebkkmaaGreat

namespace Go.Proofs.YtpenejigebkkmaaGreat
open Go.RowKit Spm
set_option linter.unusedVariables false
set_option linter.unusedSimpArgs false

theorem over_one (l : List UInt8) (j : Nat) (x : UInt8) (h : j < l.length) : over l j [x] = l.set j x := by
  unfold over
  rw [List.set_eq_take_append_cons_drop, if_pos h, List.append_assoc]
  rfl
/-- One byte written. -/
theorem Spc.poke1 {ts tr : TypeId} {w : World} {a : Nat} {v : Value} {Q : List RowP} (h : Spc ts tr w a v Q) {k : Nat} {q : RowP} (hq : Q[k]? = some q) {j : Nat} (hj : j < q.1.bs.length) (x : UInt8) :
    Spc ts tr (w.setCell ⟨q.2.1, j, none⟩ (byC x)) a v (Q.modify k (setQ · j [x])) := by
  have hm := List.mem_of_getElem? hq
  refine ⟨h.box.other (p := ⟨q.2.1, j, none⟩) (nodup_a h.nd hm) _, ?_, ?_, ?_⟩
  · rw [flatMap_modify rgC (setQ · j [x]) Q k (fun y hy => by rw [hq] at hy; cases hy; exact setQ_cells q j [x] (by simp only [List.length_cons, List.length_nil]; omega)), List.length_modify]
    exact owns_block h.row (fun g hv => Below.heap_setCell _ _ _ _ (nodup_v h.nd hm hv))
  · intro y hy
    rcases mem_modify hy with ⟨z, hz, rfl⟩ | ⟨i, hi, hyi⟩
    · rw [hq] at hz
      cases hz
      have hst := ((h.each q hm).stored (g := q.2.1) j (byC x)).1
      have e : (over q.1.bs j [x]).map byC = (q.1.bs.map byC).set j (byC x) := by rw [over_one _ _ _ hj, List.map_set]
      have hl1 : (over q.1.bs j [x]).length = q.1.bs.length := over_len _ _ _ (by simp only [List.length_cons, List.length_nil]; omega)
      unfold Bys setQ byV
      simp only
      rw [e, hl1]
      exact hst
    · exact owns_block (h.each y (List.mem_of_getElem? hyi)) (fun g hv => by
        simp [byV, Value.ownBlock] at hv
        subst hv
        exact Below.heap_setCell _ _ _ _ (nodup_ne h.nd hyi hq hi))
  · rw [foot_modify]; exact h.nd
theorem over_at (l b : List UInt8) (o j : Nat) (h : o + b.length ≤ l.length) : (over l o b)[j]? = if j < o ∨ o + b.length ≤ j then l[j]? else b[j - o]? := by
  by_cases hj : j < o ∨ o + b.length ≤ j
  · rw [if_pos hj]; exact over_get_other l b o j h hj
  · rw [if_neg hj]
    unfold over
    have hlo : (l.take o).length = o := by rw [List.length_take]; omega
    rw [List.append_assoc, List.getElem?_append_right (by omega), List.getElem?_append_left (by omega), hlo]
theorem over_step (l b : List UInt8) (o i : Nat) (x : UInt8) (hx : b[i]? = some x) (h : o + b.length ≤ l.length) : over (over l o (b.take i)) (o + i) [x] = over l o (b.take (i + 1)) := by
  have hi := (List.getElem?_eq_some_iff.1 hx).1
  have t1 : (b.take i).length = i := by rw [List.length_take]; omega
  have t2 : (b.take (i + 1)).length = i + 1 := by rw [List.length_take]; omega
  have hl := over_len l (b.take i) o (by omega)
  apply List.ext_getElem?
  intro j
  rw [over_at _ _ _ _ (by simp only [List.length_cons, List.length_nil]; omega), over_at _ _ _ _ (by omega), over_at _ _ _ _ (by omega), t1, t2]
  simp only [List.length_cons, List.length_nil]
  by_cases hj : j = o + i
  · subst hj
    rw [if_neg (by omega), if_neg (by omega), List.getElem?_take_of_lt (by omega), Nat.add_sub_cancel_left, Nat.sub_self, hx]
    rfl
  · rw [if_pos (by omega)]
    by_cases h1 : j < o ∨ o + i ≤ j
    · rw [if_pos h1, if_pos (by omega)]
    · rw [if_neg h1, if_neg (by omega), List.getElem?_take_of_lt (by omega), List.getElem?_take_of_lt (by omega)]

def SetsR (a : Nat) (F : Nat → Prop) (r : List Rg × Int) (w : World) (e : Ending) (w' : World) : Prop := e = .returned (.int .i64 r.2) ∧ RSp w' a (fun k => F k ∨ w.heap.size ≤ k) r.1 ∧ Keeps F w w'
theorem SetsR.same {a : Nat} {F : Nat → Prop} {L : List Rg} {err : Int} {w w' : World} (h : RSp w a F L) (hb : Below w.heap.size w w') : SetsR a F (L, err) w (.returned (.int .i64 err)) w' :=
  ⟨rfl, (h.stay hb).mono (fun k hk _ => .inl hk), Keeps.of_below hb⟩
theorem SetsR.after {a : Nat} {F : Nat → Prop} {r : List Rg × Int} {w w1 w' : World} {e : Ending} (hb : Below w.heap.size w w1) (h : SetsR a F r w1 e w') : SetsR a F r w e w' :=
  ⟨h.1, h.2.1.mono (fun k hk _ => by have := hb.size; rcases hk with hk | hk; exact .inl hk; exact .inr (by omega)), (Keeps.of_below hb).trans' h.2.2⟩
/-- Bytes that stand outside a thing. -/
def SrcF (w : World) (F : Nat → Prop) (A : Option Addr) (b : List UInt8) : Prop := b ≠ [] → ∃ bb off, A = some ⟨bb, off, none⟩ ∧ ¬ F bb ∧ bb < w.heap.size ∧ ∀ j x, b[j]? = some x → w.cell? ⟨bb, off + j, none⟩ = some (byC x)

theorem set_rang {M : List Rg} {x p : Int} {b : List UInt8} (h : rangE M x b.length p ≠ 0) : setS M x b p = (M, rangE M x b.length p) := by
  unfold rangE at h ⊢
  split at h
  · rename_i hn; rw [if_pos hn, setS_arg (by omega)]
  · rename_i hn
    rw [if_neg hn, Int.toNat_natCast] at *
    exact setS_bad (by omega) h
theorem set_rang_ok {M : List Rg} {x p : Int} {b : List UInt8} (h : rangE M x b.length p = 0) : setS M x b p = (M.modify (partK M x) (fun r => { r with bs := over r.bs (x - r.at_).toNat b }), 0) := by
  unfold rangE at h
  split at h
  · simp at h
  · rename_i hn
    rw [Int.toNat_natCast] at h
    exact setS_ok (by omega) h

set_option maxRecDepth 100000 in
set_option maxHeartbeats 4000000 in
theorem rset_any (a : Nat) (F : Nat → Prop) (M : List Rg) (hok : Each M) (x : Int) (hx : I64 x) (A : Option Addr) (c : Nat) (b : List UInt8) (hbm : b.length ≤ 9223372036854775807) (p : Int) (hp : p = 0 ∨ p = 1 ∨ p = 2 ∨ p = 4) (w : World) (h : RSp w a F M) (hsrc : SrcF w F A b) :
    Calls Tryz.prog 32 #[.pointer (some ⟨a, 0, none⟩), .int .i64 x, .slice A b.length c, .int .i64 p] w (SetsR a F (setS M x b p) w) := by
  have C1 := Lib.hid (use_any a F M hok x hx b.length p ⟨by omega, by omega⟩ hp w h)
  by_cases hE : rangE M x b.length p = 0
  · rw [set_rang_ok hE]
    obtain ⟨n1, n2, hI, r, hr, hin, hrn, _⟩ := rang_ok hE
    rw [hI, hE] at C1
    obtain ⟨bb, off, rfl, hbF, hbl, hbc⟩ := hsrc (by intro e; subst e; simp at n1)
    have ho := hok r (List.mem_of_getElem? hr)
    obtain ⟨i1, i2⟩ := inside_iff hin
    have o1 := ho.lo; have o2 := ho.hi; have o3 := ho.slo; have o4 := ho.len
    obtain ⟨k, hk⟩ : ∃ k, partK M x = k := ⟨_, rfl⟩
    rw [hk] at hr C1 ⊢
    obtain ⟨o, rfl⟩ : ∃ o : Nat, x = r.at_ + (o : Int) := ⟨(x - r.at_).toNat, by omega⟩
    have hob : o + b.length ≤ r.bs.length := by omega
    have hmod : M.modify k (fun r' => { r' with bs := over r'.bs (r.at_ + (o : Int) - r'.at_).toNat b }) = M.modify k (fun _ => { r with bs := over r.bs o b }) := by
      apply List.ext_getElem?
      intro i
      rw [List.getElem?_modify, List.getElem?_modify]
      by_cases hki : k = i
      · subst hki; rw [hr]; simp; congr 1; omega
      · simp [hki]
    rw [hmod]
    clear hmod hsrc
    have HH := Lib.hid h
    have HR := Lib.hid hr
    have HBC := Lib.hid hbc
    have HBF := Lib.hid hbF
    have hml : M.length ≤ maxLen := by
      obtain ⟨v, Q, hs, rfl, _⟩ := h
      obtain ⟨_, cap, _, _, h1, h2, _⟩ := hs.cells
      rw [List.length_map]; omega
    have hkl := (List.getElem?_eq_some_iff.1 hr).1
    obtain ⟨ra, rs, rp, rb⟩ := r
    simp only at *
    have he : ra + (o : Int) - ra = (o : Int) := by omega
    have hbl2 : (b.length : Int) ≤ 1048576 := by omega
    have hol : (o : Int) ≤ 1048576 := by have := ho.shi; simp only at this; omega
    have hor : o + b.length ≤ rb.length := hob
    have hrbm : (rb.length : Int) ≤ 1048576 := by have := ho.shi; simp only at this; omega
    unfold maxLen at hml
    have hk1 : (k : Int) < (M.length : Int) := by omega
    have HO4 := Lib.hid o4; clear o4
    have hk0 : (0 : Int) ≤ (k : Int) := by omega
    clear h hr hbc hbF hE hI hin i1 i2 hrn ho hok hk
    go_enter Tryz.func32, Tryz.ntmps32
    go_wp2_with fail
    refine (C1.out).mono ?_
    rintro e w1 ⟨rfl, h1⟩
    have H1 := Lib.hid h1; clear h1
    go_wp2_with fail
    go_loopw [11] (fun i wr => ∃ j : Nat, j ≤ b.length ∧ i = .int .i64 j ∧ Hid (RSp wr a (fun k => F k ∧ k < w.heap.size) (M.modify k (fun _ => ⟨ra, rs, rp, over rb o (b.take j)⟩))) ∧ Hid (Keeps F w wr)) (fun i _ => b.length - (intOf i).toNat)
    case atStart => exact ⟨0, Nat.zero_le _, rfl, Lib.hid (by
      have e : M.modify k (fun _ => ⟨ra, rs, rp, over rb o (b.take 0)⟩) = M := by
        apply List.ext_getElem?
        intro i
        rw [List.getElem?_modify]
        by_cases hki : k = i
        · subst hki; rw [HR.out]; simp [over]
        · simp [hki]
      rw [e]
      exact (HH.out.mono (fun k hk hl => ⟨hk, hl⟩)).stay H1.out), Lib.hid (Keeps.of_below H1.out)⟩
    case round =>
      obtain ⟨j, hj, rfl, hS, hK⟩ := hrel
      by_cases hlt : j < b.length
      · obtain ⟨y, hy⟩ : ∃ y, b[j]? = some y := ⟨b[j], List.getElem?_eq_getElem hlt⟩
        obtain ⟨v, Q, hs, hQ, hF⟩ := hS.out
        have hov := over_len rb (b.take j) o (by rw [List.length_take]; omega)
        obtain ⟨q, hq⟩ : ∃ q, Q[k]? = some q := by
          have h1 : (Q.map (·.1)).length = M.length := by rw [hQ, List.length_modify]
          rw [List.length_map] at h1
          exact ⟨Q[k]'(by omega), List.getElem?_eq_getElem _⟩
        have hqr : q.1 = ⟨ra, rs, rp, over rb o (b.take j)⟩ := by
          have h1 := congrArg (fun l => l[k]?) hQ
          simp only [List.getElem?_map, hq, List.getElem?_modify, HR.out] at h1
          simpa using h1
        obtain ⟨A2, cap, rfl, hc0, hcap, hm, hrow⟩ := hs.cells
        obtain ⟨g, rfl, hg, hcell⟩ := hrow k q hq
        have hby := hs.bys (List.mem_of_getElem? hq)
        have hQl : Q.length = M.length := by
          have h1 : (Q.map (·.1)).length = M.length := by rw [hQ, List.length_modify]
          rwa [List.length_map] at h1
        obtain ⟨q1, qk, qc⟩ := q
        simp only at hqr
        subst hqr
        simp only at hby
        obtain ⟨b1, b2, b3, b4⟩ := hby
        have c0 : wr.cell? ⟨g, k * 4, none⟩ = some (.int .i64 ra) := hcell 0 _ rfl
        have c3 : wr.cell? ⟨g, k * 4 + 3, none⟩ = some (.slice (some ⟨qk, 0, none⟩) rb.length qc) := (hcell 3 _ rfl).trans (by simp only [hov])
        have cb : wr.cell? ⟨bb, off + j, none⟩ = some (.int .u8 y.toNat) := (World.cell?_of_block (a := ⟨bb, off + j, none⟩) (hK.out.block bb hbl HBF.out)).trans (HBC.out j y hy)
        have cq : wr.cell? ⟨qk, o + j, none⟩ = some (byC ((over rb o (b.take j))[o + j]'(by rw [hov]; omega))) := b4 (o + j) _ (List.getElem?_eq_getElem _)
        have fq : wr.frozen? ⟨qk, o + j, none⟩ = false := by
          rcases (hs.each _ (List.mem_of_getElem? hq)).2 with ⟨hv, hn⟩ | ⟨g', cap', cur, hv, _, hg', _⟩
          · simp [byV] at hv
          · simp only [byV, Value.slice.injEq, Option.some.injEq, Addr.mk.injEq] at hv
            obtain ⟨⟨rfl, _⟩, _⟩ := hv
            exact frozen_of_row wr _ _ _ _ hg'
        have hqF : F qk ∧ qk < w.heap.size := hF qk (foot_q (List.mem_of_getElem? hq))
        have hp := hs.poke1 hq (j := o + j) (by simp only; rw [hov]; omega) y
        have hmap : (Q.modify k (setQ · (o + j) [y])).map (·.1) = M.modify k (fun _ => ⟨ra, rs, rp, over rb o (b.take (j + 1))⟩) := by
          apply List.ext_getElem?
          intro i
          have h1 := congrArg (fun l => l[i]?) hQ
          simp only [List.getElem?_map, List.getElem?_modify] at h1 ⊢
          by_cases hki : k = i
          · subst hki
            rw [hq, HR.out]
            simp [setQ, over_step rb b o j y hy hor]
          · simpa [hki] using h1
        have HN : Hid (∀ W2 : World, W2.heap = (wr.setCell ⟨qk, o + j, none⟩ (byC y)).heap → RSp W2 a (fun k => F k ∧ k < w.heap.size) (M.modify k (fun _ => ⟨ra, rs, rp, over rb o (b.take (j + 1))⟩))) := Lib.hid (fun W2 hW2 =>
          ⟨_, _, hp.keep (fun x _ => by rw [hW2]), hmap, fun x hx => hF x (by rw [foot_modify] at hx; exact hx)⟩)
        have HK2 : Hid (Keeps F w ((wr.setCell ⟨qk, o + j, none⟩ (byC y)).drew)) := Lib.hid ((hK.out.setCell (.inl hqF.1) _).drew)
        clear hp hmap
        have hqm : (qc : Int) ≤ 9223372036854775807 := by unfold maxLen at b3; omega
        have hoc : o + j < rb.length := by omega
        have j1 : (j : Int) < (b.length : Int) := by omega
        have j0 : (0 : Int) ≤ (j : Int) := by omega
        have hqk : (k : Int) < (Q.length : Int) := by omega
        have w1_ : IntKind.i64.wrap (ra + (o : Int) - ra) = (o : Int) := by rw [he]; exact IntWalk.i64_in _ (by omega)
        have w0_ : IntKind.i64.wrap (o : Int) = (o : Int) := IntWalk.i64_in _ (by omega)
        have w2_ : IntKind.i64.wrap ((o : Int) + (j : Int)) = (o : Int) + (j : Int) := IntWalk.i64_in _ (by omega)
        have w3_ : ((o : Int) + (j : Int)).toNat = o + j := by omega
        have w4_ : (0 : Int) ≤ (o : Int) + (j : Int) := by omega
        have w5_ : (o : Int) + (j : Int) < (rb.length : Int) := by omega
        clear hrow hcell hs hQ hF hq b4 hS
        go_wp2_with fail
        go_still_tail 26, (by kernel_rfl)
        clear w0_ w1_ w2_ w3_ w4_ w5_
        go_wp2
        go_roundw
        case rel => exact ⟨j + 1, by omega, by go_num, Lib.hid (HN.out _ rfl), Lib.hid HK2.out⟩
        case measure => simp [intOf]; omega
      · obtain rfl : j = b.length := by omega
        have HS2 : Hid (RSp wr a (fun k => F k ∨ w.heap.size ≤ k) (M.modify k (fun _ => ⟨ra, rs, rp, over rb o b⟩))) := Lib.hid (by
          have h := hS.out
          rw [List.take_of_length_le (Nat.le_refl _)] at h
          exact h.mono (fun k hk _ => .inl hk.1))
        go_wp2
        go_ret
        exact ⟨rfl, HS2.out, hK.out⟩
  · rw [set_rang hE]
    have eE : (rangE M x b.length p == 0) = false := beq_eq_false_iff_ne.2 hE
    have HS := Lib.hid (fun (w1 : World) (hb : Below w.heap.size w w1) => SetsR.same (err := rangE M x b.length p) h hb)
    generalize rangE M x b.length p = E at *
    clear h hok hE hsrc
    go_enter Tryz.func32, Tryz.ntmps32
    go_wp2_with fail
    refine (C1.out).mono ?_
    rintro e w1 ⟨rfl, h1⟩
    have H1 := Lib.hid h1; clear h1
    go_wp2
    go_ret
    exact HS.out _ H1.out
end Go.Proofs.YtpenejigebkkmaaGreat

namespace Go.Proofs.YtpenejigebkkmaaGreat
open Go.RowKit Spm
set_option linter.unusedVariables false
set_option linter.unusedSimpArgs false

/-- The word's bytes, one by one. -/
theorem bytes_at (n : Int) : ∀ k : Nat, k < 8 → (bytesS n)[k]? = some (byteN n (256 ^ k))
  | 0, _ => rfl
  | 1, _ => rfl
  | 2, _ => rfl
  | 3, _ => rfl
  | 4, _ => rfl
  | 5, _ => rfl
  | 6, _ => rfl
  | 7, _ => rfl
theorem bytes_snoc (n : Int) (k : Nat) (hk : k < 8) : ((bytesS n).take (k + 1)).map byC = ((bytesS n).take k).map byC ++ [byC (byteN n (256 ^ k))] := by
  obtain ⟨h1, h2⟩ := List.getElem?_eq_some_iff.1 (bytes_at n k hk)
  rw [List.take_succ_eq_append_getElem h1, h2, List.map_append]
  rfl
theorem byC_digit (n : Int) (k : Nat) : byC (byteN n (256 ^ k)) = .int .u8 (IntKind.u64.wrap n / (256 ^ k : Nat) % 256) := byC_byteN n _

theorem div_u64 {m : Int} (h0 : 0 ≤ m) (h1 : m < 18446744073709551616) : IntKind.u64.wrap (m.tdiv 256) = m / 256 := by
  rw [Int.tdiv_eq_ediv_of_nonneg h0, IntKind.wrap_u64]
  omega

end Go.Proofs.YtpenejigebkkmaaGreat
