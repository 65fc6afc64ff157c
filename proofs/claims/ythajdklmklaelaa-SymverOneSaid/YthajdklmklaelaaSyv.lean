/-
  Layer 7: Versioned, of the program and of the document, over a list of symbols.
  Conditions: none. (My own text.)
-/
import Derived.Test.YthajdklmklaelaaSym
import Derived.Test.YthajdklmklaelaaCalm
namespace Go.Proofs.Ythajdklmklaelaa
open Go.RowKit
set_option linter.unusedVariables false
set_option linter.unusedSimpArgs false

structure SymD where
  n : ByteArray
  v : ByteArray
  o : Bool
  k : Int
  w : Bool
  i : Int
  d : Bool
  a : Int
  s : Int

def SymD.cells (x : SymD) : List Value := [.string x.n, .string x.v, .bool x.o, .int .i64 x.k, .bool x.w, .int .i64 x.i, .bool x.d, .int .i64 x.a, .int .i64 x.s]

/-- The symbols lie one behind the other. -/
def SymsAt (w : World) (b off : Nat) (l : List SymD) : Prop := ∀ (i : Nat) (x : SymD), l[i]? = some x → ∀ (j : Nat) (u : Value), x.cells[j]? = some u → w.cell? ⟨b, off + i * 9 + j, none⟩ = some u

def verS (l : List SymD) : Bool := l.any fun x => x.d && !x.v.toList.isEmpty

theorem verS_take (l : List SymD) (k : Nat) (x : SymD) (h : l[k]? = some x) : verS (l.take (k + 1)) = (verS (l.take k) || (x.d && !x.v.toList.isEmpty)) := by
  have hk : k < l.length := (List.getElem?_eq_some_iff.1 h).1
  have hx : l[k] = x := (List.getElem?_eq_some_iff.1 h).2
  unfold verS
  rw [List.take_succ_eq_append_getElem hk, List.any_append, hx]
  simp

theorem verS_hit {l : List SymD} {k : Nat} {x : SymD} (h : l[k]? = some x) (hx : (x.d && !x.v.toList.isEmpty) = true) : verS l = true := by
  unfold verS
  rw [List.any_eq_true]
  exact ⟨x, List.mem_of_getElem? h, hx⟩

set_option maxHeartbeats 2000000 in
theorem versioned_any (b off c : Nat) (l : List SymD) (w : World) (hb : b < w.heap.size) (hl : l.length ≤ maxLen) (hs : SymsAt w b off l) :
    Calls Try.prog 18 #[.slice (some ⟨b, off, none⟩) l.length c] w fun e w' => e = .returned (.bool (verS l)) ∧ Below w.heap.size w w' := by
  unfold maxLen at hl
  have HS := Lib.hid hs; clear hs
  go_enter Try.func18, Try.ntmps18
  go_wp2
  go_loopw [7] (fun i wr => ∃ k : Nat, k ≤ l.length ∧ i = .int .i64 k ∧ verS (l.take k) = false ∧ Below w.heap.size w wr) (fun i _ => l.length - (intOf i).toNat)
  case atStart => exact ⟨0, Nat.zero_le _, rfl, rfl, Below.refl _ _⟩
  case round =>
    obtain ⟨k, hk, rfl, hv, hbel⟩ := hrel
    have HV := Lib.hid hv; clear hv
    by_cases hlt : k < l.length
    · obtain ⟨x, hx⟩ : ∃ x, l[k]? = some x := ⟨l[k], List.getElem?_eq_getElem hlt⟩
      have hcell : ∀ j u, x.cells[j]? = some u → wr.cell? ⟨b, off + k * 9 + j, none⟩ = some u := fun j u hu => (hbel.cell (p := ⟨b, off + k * 9 + j, none⟩) hb).trans (HS.out k x hx j u hu)
      have HT := Lib.hid (verS_take l k x hx)
      have HH := Lib.hid (verS_hit hx)
      clear hx
      obtain ⟨xn, xv, xo, xk, xw, xi, xd, xa, xs⟩ := x
      have c0 : wr.cell? ⟨b, off + k * 9, none⟩ = some (.string xn) := hcell 0 _ rfl
      have c1 : wr.cell? ⟨b, off + k * 9 + 1, none⟩ = some (.string xv) := hcell 1 _ rfl
      have c2 : wr.cell? ⟨b, off + k * 9 + 2, none⟩ = some (.bool xo) := hcell 2 _ rfl
      have c3 : wr.cell? ⟨b, off + k * 9 + 3, none⟩ = some (.int .i64 xk) := hcell 3 _ rfl
      have c4 : wr.cell? ⟨b, off + k * 9 + 4, none⟩ = some (.bool xw) := hcell 4 _ rfl
      have c5 : wr.cell? ⟨b, off + k * 9 + 5, none⟩ = some (.int .i64 xi) := hcell 5 _ rfl
      have c6 : wr.cell? ⟨b, off + k * 9 + 6, none⟩ = some (.bool xd) := hcell 6 _ rfl
      have c7 : wr.cell? ⟨b, off + k * 9 + 7, none⟩ = some (.int .i64 xa) := hcell 7 _ rfl
      have c8 : wr.cell? ⟨b, off + k * 9 + 8, none⟩ = some (.int .i64 xs) := hcell 8 _ rfl
      clear hcell
      have hbel2 : ∀ o, Below w.heap.size w (wr.alloc o) := fun o => hbel.alloc hbel.size o
      have HB := Lib.hid hbel2; clear hbel2
      cases xd
      · go_wp2
        go_roundw
        case rel => exact ⟨k + 1, by omega, by go_num, by rw [HT.out, HV.out]; rfl, HB.out _⟩
        case measure => simp [intOf]; omega
      · cases hE : xv.toList.isEmpty
        · have hres := HH.out (by simp [hE])
          have HR := Lib.hid hres; clear hres HT HH
          go_wp2
          go_ret
          exact ⟨by rw [HR.out]; rfl, HB.out _⟩
        · have hn : verS (l.take (k + 1)) = false := by rw [HT.out, HV.out]; simp [hE]
          have HN := Lib.hid hn; clear hn HT HH
          go_wp2
          go_roundw
          case rel => exact ⟨k + 1, by omega, by go_num, HN.out, HB.out _⟩
          case measure => simp [intOf]; omega
    · have hn : verS l = false := by have := HV.out; rwa [show k = l.length by omega, List.take_length] at this
      have HN := Lib.hid hn; clear hn HV
      go_wp2
      go_ret
      exact ⟨by rw [HN.out]; rfl, hbel⟩

/-- A nil list. -/
theorem versioned_nil (A : Option Addr) (c : Nat) (w : World) :
    Calls Try.prog 18 #[.slice A 0 c] w fun e w' => e = .returned (.bool false) ∧ Below w.heap.size w w' := by
  go_enter Try.func18, Try.ntmps18
  go_wp2
  refine wp_loop_rounds 1 ?_
  rw [rounds_succ]
  go_wp2
  go_ret
  exact ⟨rfl, Below.refl _ _⟩

def cntS (l : List SymD) : Nat := (l.filter fun x => x.d && !x.v.toList.isEmpty).length
theorem cntS_take (l : List SymD) (k : Nat) (x : SymD) (h : l[k]? = some x) : cntS (l.take (k + 1)) = cntS (l.take k) + if (x.d && !x.v.toList.isEmpty) = true then 1 else 0 := by
  have hk : k < l.length := (List.getElem?_eq_some_iff.1 h).1
  have hx : l[k] = x := (List.getElem?_eq_some_iff.1 h).2
  unfold cntS
  rw [List.take_succ_eq_append_getElem hk, List.filter_append, hx, List.length_append]
  by_cases hc : (x.d && !x.v.toList.isEmpty) = true <;> simp [List.filter_cons, hc]
theorem cntS_le (l : List SymD) (k : Nat) : cntS (l.take k) ≤ k := by
  unfold cntS
  have h1 := List.length_filter_le (fun x : SymD => x.d && !x.v.toList.isEmpty) (l.take k)
  have h2 : (l.take k).length ≤ k := by simp; omega
  omega
theorem cntS_pos (l : List SymD) : decide (0 < cntS l) = verS l := by
  unfold cntS verS
  rw [Bool.eq_iff_iff, decide_eq_true_eq, List.any_eq_true]
  constructor
  · intro h
    obtain ⟨y, hy⟩ := List.exists_mem_of_length_pos h
    exact ⟨y, (List.mem_filter.1 hy).1, (List.mem_filter.1 hy).2⟩
  · rintro ⟨y, h1, h2⟩
    exact List.length_pos_of_mem (List.mem_filter.2 ⟨h1, h2⟩)

set_option maxHeartbeats 2000000 in
theorem refVersioned_any (b off c : Nat) (l : List SymD) (w : World) (hl : l.length ≤ maxLen) (hs : SymsAt w b off l) :
    Calls Try.prog 19 #[.slice (some ⟨b, off, none⟩) l.length c] w fun e w' => e = .returned (.bool (verS l)) ∧ w = w' := by
  unfold maxLen at hl
  have HS := Lib.hid hs; clear hs
  have HP := Lib.hid (cntS_pos l)
  go_enter Try.func19, Try.ntmps19
  go_wp2
  go_loop [3, 4] (fun n i => ∃ k : Nat, k ≤ l.length ∧ i = .int .i64 k ∧ n = .int .i64 (cntS (l.take k))) (fun _ i => l.length - (intOf i).toNat)
  case atStart => exact ⟨0, Nat.zero_le _, rfl, rfl⟩
  case round =>
    obtain ⟨k, hk, rfl, rfl⟩ := hrel
    have hc := cntS_le l k
    by_cases hlt : k < l.length
    · obtain ⟨x, hx⟩ : ∃ x, l[k]? = some x := ⟨l[k], List.getElem?_eq_getElem hlt⟩
      have hcell : ∀ j u, x.cells[j]? = some u → w.cell? ⟨b, off + k * 9 + j, none⟩ = some u := fun j u hu => HS.out k x hx j u hu
      have HT := Lib.hid (cntS_take l k x hx)
      clear hx
      obtain ⟨xn, xv, xo, xk, xw, xi, xd, xa, xs⟩ := x
      have c1 : w.cell? ⟨b, off + k * 9 + 1, none⟩ = some (.string xv) := hcell 1 _ rfl
      have c6 : w.cell? ⟨b, off + k * 9 + 6, none⟩ = some (.bool xd) := hcell 6 _ rfl
      clear hcell
      generalize hm : cntS (l.take k) = m at hc HT ⊢
      clear hm
      cases xd
      · go_wp2
        go_round
        case rel => exact ⟨k + 1, by omega, by go_num, by rw [HT.out]; rfl⟩
        case measure => simp [intOf]; omega
      · cases hE : xv.toList.isEmpty
        · have hn : cntS (l.take (k + 1)) = m + 1 := by rw [HT.out]; simp [hE]
          have HN := Lib.hid hn; clear hn HT
          go_wp2
          go_round
          case rel => exact ⟨k + 1, by omega, by go_num, by rw [HN.out]; go_num⟩
          case measure => simp [intOf]; omega
        · have hn : cntS (l.take (k + 1)) = m := by rw [HT.out]; simp [hE]
          have HN := Lib.hid hn; clear hn HT
          go_wp2
          go_round
          case rel => exact ⟨k + 1, by omega, by go_num, by rw [HN.out]⟩
          case measure => simp [intOf]; omega
    · have hk' : l.take k = l := List.take_of_length_le (by omega)
      rw [hk']
      go_wp2
      go_ret
      exact ⟨by rw [← HP.out]; rfl, rfl⟩

theorem refVersioned_nil (A : Option Addr) (c : Nat) (w : World) :
    Calls Try.prog 19 #[.slice A 0 c] w fun e w' => e = .returned (.bool false) ∧ w = w' := by
  go_enter Try.func19, Try.ntmps19
  go_wp2
  refine wp_loop_rounds 1 ?_
  rw [rounds_succ]
  go_wp2
  go_ret
  exact ⟨rfl, rfl⟩
end Go.Proofs.Ythajdklmklaelaa
