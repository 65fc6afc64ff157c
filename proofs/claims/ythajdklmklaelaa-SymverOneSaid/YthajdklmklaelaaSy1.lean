/-
  Layer 7: SymverOne: the plain law, and its walk.
  Conditions: none. (My own text.)
-/
import Derived.Test.YthajdklmklaelaaSyx
import Derived.Test.YthajdklmklaelaaBlk
namespace Go.Proofs.Ythajdklmklaelaa
open Go.RowKit
set_option linter.unusedVariables false
set_option linter.unusedSimpArgs false

/-- Does a definition fit a reference, where there are versions? -/
def mtS (rn rv : ByteArray) (x : SymD) : Bool := matchS rn rv x.n x.v x.o (seenS x.d x.i) true
/-- Are two definitions in each other's way? -/
def clashS (x y : SymD) : Bool := (x.n.toList == y.n.toList) && ((x.v.toList == y.v.toList) || (!x.o && !y.o))
def OneR (rn rv : ByteArray) (l : List SymD) (i m : Nat) : Prop := (m = 0 ∧ ∀ j y, j < i → l[j]? = some y → mtS rn rv y = false) ∨ (m = 1 ∧ ∃ j y, j < i ∧ l[j]? = some y ∧ mtS rn rv y = true)
def Apart (l : List SymD) (x : SymD) (k : Nat) : Prop := ∀ j y, j < k → l[j]? = some y → clashS x y = false

theorem Apart.zero (l : List SymD) (x : SymD) : Apart l x 0 := fun j y h => absurd h (Nat.not_lt_zero _)
theorem Apart.succ {l : List SymD} {x y : SymD} {k : Nat} (h : Apart l x k) (hy : l[k]? = some y) (hc : clashS x y = false) : Apart l x (k + 1) := fun j z hj hz => by
  rcases Nat.lt_or_ge j k with h1 | h1
  · exact h j z h1 hz
  · have : j = k := by omega
    subst this
    rw [hy] at hz
    cases hz
    exact hc
theorem OneR.zero (rn rv : ByteArray) (l : List SymD) : OneR rn rv l 0 0 := .inl ⟨rfl, fun j y h => absurd h (Nat.not_lt_zero _)⟩
theorem OneR.le {rn rv : ByteArray} {l : List SymD} {i m : Nat} (h : OneR rn rv l i m) : m ≤ 1 := by rcases h with ⟨h, _⟩ | ⟨h, _⟩ <;> omega
theorem OneR.no {rn rv : ByteArray} {l : List SymD} {i m : Nat} {x : SymD} (h : OneR rn rv l i m) (hx : l[i]? = some x) (hm : mtS rn rv x = false) : OneR rn rv l (i + 1) m := by
  rcases h with ⟨h1, h2⟩ | ⟨h1, j, y, hj, hy, hm'⟩
  · refine .inl ⟨h1, fun j y hj hy => ?_⟩
    rcases Nat.lt_or_ge j i with h | h
    · exact h2 j y h hy
    · have : j = i := by omega
      subst this
      rw [hx] at hy
      cases hy
      exact hm
  · exact .inr ⟨h1, j, y, by omega, hy, hm'⟩
theorem mt_clash {rn rv : ByteArray} {x y : SymD} (hx : mtS rn rv x = true) (hy : mtS rn rv y = true) : clashS x y = true := by
  unfold mtS matchS at hx hy
  unfold clashS
  simp only [Bool.and_eq_true, beq_iff_eq] at hx hy
  obtain ⟨⟨_, nx⟩, vx⟩ := hx
  obtain ⟨⟨_, ny⟩, vy⟩ := hy
  rw [← nx, ← ny]
  split at vx
  · rename_i he
    rw [if_pos he] at vy
    rw [vx, vy]
    simp
  · rename_i he
    rw [if_neg he] at vy
    have e1 : rv.toList = x.v.toList := by simpa using vx
    have e2 : rv.toList = y.v.toList := by simpa using vy
    rw [← e1, ← e2]
    simp
theorem OneR.yes {rn rv : ByteArray} {l : List SymD} {i m : Nat} {x : SymD} (h : OneR rn rv l i m) (hx : l[i]? = some x) (hm : mtS rn rv x = true) (ha : Apart l x i) : OneR rn rv l (i + 1) (m + 1) := by
  rcases h with ⟨h1, h2⟩ | ⟨h1, j, y, hj, hy, hm'⟩
  · exact .inr ⟨by omega, i, x, by omega, hx, hm⟩
  · have := ha j y hj hy
    rw [mt_clash hm hm'] at this
    cases this

theorem one_nil (rn rv : ByteArray) (ro rw rd : Bool) (rk ri ra rs : Int) (A : Option Addr) (c : Nat) (w : World) :
    Calls Try.prog 4 #[.agg #[.string rn, .string rv, .bool ro, .int .i64 rk, .bool rw, .int .i64 ri, .bool rd, .int .i64 ra, .int .i64 rs], .slice A 0 c] w fun e w' => e = .returned (.bool true) ∧ Below w.heap.size w w' := by
  have A1 := Lib.hid awake_any
  go_enter Try.func4, Try.ntmps4
  go_wp2_with fail
  refine (A1.out _).mono ?_
  rintro e w1 ⟨rfl, hb1⟩
  have g1 := below_box hb1
  clear hb1
  go_wp2_with fail
  refine wp_loop_rounds 1 ?_
  rw [rounds_succ]
  go_wp2
  go_ret
  exact ⟨by simp, g1⟩

set_option maxHeartbeats 4000000 in
theorem one_walk (rn rv : ByteArray) (ro rw rd : Bool) (rk ri ra rs : Int) (b off c : Nat) (l : List SymD) (w : World) (hb : b < w.heap.size) (hl : l.length ≤ maxLen) (hs : SymsAt w b off l) :
    Calls Try.prog 4 #[.agg #[.string rn, .string rv, .bool ro, .int .i64 rk, .bool rw, .int .i64 ri, .bool rd, .int .i64 ra, .int .i64 rs], .slice (some ⟨b, off, none⟩) l.length c] w fun e w' => e = .returned (.bool true) ∧ Below w.heap.size w w' := by
  unfold maxLen at hl
  have A1 := Lib.hid awake_any
  have HS := Lib.hid hs; clear hs
  go_enter Try.func4, Try.ntmps4
  go_wp2_with fail
  refine (A1.out _).mono ?_
  rintro e w1 ⟨rfl, hb1⟩
  have r1 := row_new hb1
  have l1 : w.heap.size < w1.heap.size := by have := hb1.size; simp at this; omega
  have g1 := below_box hb1
  clear hb1
  go_wp2_with fail
  go_loopw [6, 7] (fun m i wr => ∃ ii mm : Nat, ii ≤ l.length ∧ i = .int .i64 ii ∧ m = .int .i64 mm ∧ OneR rn rv l ii mm ∧ Below w.heap.size w wr ∧ Below w1.heap.size w1 wr) (fun _ i _ => l.length - (intOf i).toNat)
  case atStart => exact ⟨0, 0, Nat.zero_le _, rfl, rfl, OneR.zero _ _ _, g1, Below.refl _ _⟩
  case round =>
    obtain ⟨ii, mm, hii, rfl, rfl, hone, hbel, hbel1⟩ := hrel
    have hmm := hone.le
    have HO := Lib.hid hone; clear hone
    clear g1
    by_cases hlt : ii < l.length
    · obtain ⟨x, hx⟩ : ∃ x, l[ii]? = some x := ⟨l[ii], List.getElem?_eq_getElem hlt⟩
      have HX := Lib.hid hx; clear hx
      obtain ⟨wo, rfl⟩ : ∃ wo : World, wo = wr := ⟨_, rfl⟩
      go_wp2_with fail
      go_loopw [8] (fun k wr => ∃ kk : Nat, kk ≤ ii ∧ k = .int .i64 kk ∧ Apart l x kk ∧ Below w.heap.size w wr ∧ Below w1.heap.size w1 wr) (fun k _ => ii - (intOf k).toNat)
      case atStart => exact ⟨0, Nat.zero_le _, rfl, Apart.zero _ _, hbel, hbel1⟩
      case round =>
        obtain ⟨kk, hkk, rfl, hap, hbk, hbk1⟩ := hrel
        clear hbel hbel1
        have hlk_ : ii < l.length := hlt
        obtain ⟨xn, xv, xo, xk, xw, xi, xd, xa, xs⟩ := x
        have hcx : ∀ j u, (SymD.mk xn xv xo xk xw xi xd xa xs).cells[j]? = some u → wr.cell? ⟨b, off + ii * 9 + j, none⟩ = some u := fun j u hu => (hbk.cell (p := ⟨b, off + ii * 9 + j, none⟩) hb).trans (HS.out ii _ HX.out j u hu)
        by_cases hlk : kk < ii
        · obtain ⟨y, hy⟩ : ∃ y, l[kk]? = some y := ⟨l[kk], List.getElem?_eq_getElem (by omega)⟩
          have hcy : ∀ j u, y.cells[j]? = some u → wr.cell? ⟨b, off + kk * 9 + j, none⟩ = some u := fun j u hu => (hbk.cell (p := ⟨b, off + kk * 9 + j, none⟩) hb).trans (HS.out kk _ hy j u hu)
          have HN := Lib.hid (fun h => hap.succ hy h)
          clear hy hap
          obtain ⟨yn, yv, yo, yk, yw, yi, yd, ya, ys⟩ := y
          have c0 : wr.cell? ⟨b, off + ii * 9, none⟩ = some (.string xn) := hcx 0 _ rfl
          have c1 : wr.cell? ⟨b, off + ii * 9 + 1, none⟩ = some (.string xv) := hcx 1 _ rfl
          have c2 : wr.cell? ⟨b, off + ii * 9 + 2, none⟩ = some (.bool xo) := hcx 2 _ rfl
          have c3 : wr.cell? ⟨b, off + ii * 9 + 3, none⟩ = some (.int .i64 xk) := hcx 3 _ rfl
          have c4 : wr.cell? ⟨b, off + ii * 9 + 4, none⟩ = some (.bool xw) := hcx 4 _ rfl
          have c5 : wr.cell? ⟨b, off + ii * 9 + 5, none⟩ = some (.int .i64 xi) := hcx 5 _ rfl
          have c6 : wr.cell? ⟨b, off + ii * 9 + 6, none⟩ = some (.bool xd) := hcx 6 _ rfl
          have c7 : wr.cell? ⟨b, off + ii * 9 + 7, none⟩ = some (.int .i64 xa) := hcx 7 _ rfl
          have c8 : wr.cell? ⟨b, off + ii * 9 + 8, none⟩ = some (.int .i64 xs) := hcx 8 _ rfl
          have d0 : wr.cell? ⟨b, off + kk * 9, none⟩ = some (.string yn) := hcy 0 _ rfl
          have d1 : wr.cell? ⟨b, off + kk * 9 + 1, none⟩ = some (.string yv) := hcy 1 _ rfl
          have d2 : wr.cell? ⟨b, off + kk * 9 + 2, none⟩ = some (.bool yo) := hcy 2 _ rfl
          have d3 : wr.cell? ⟨b, off + kk * 9 + 3, none⟩ = some (.int .i64 yk) := hcy 3 _ rfl
          have d4 : wr.cell? ⟨b, off + kk * 9 + 4, none⟩ = some (.bool yw) := hcy 4 _ rfl
          have d5 : wr.cell? ⟨b, off + kk * 9 + 5, none⟩ = some (.int .i64 yi) := hcy 5 _ rfl
          have d6 : wr.cell? ⟨b, off + kk * 9 + 6, none⟩ = some (.bool yd) := hcy 6 _ rfl
          have d7 : wr.cell? ⟨b, off + kk * 9 + 7, none⟩ = some (.int .i64 ya) := hcy 7 _ rfl
          have d8 : wr.cell? ⟨b, off + kk * 9 + 8, none⟩ = some (.int .i64 ys) := hcy 8 _ rfl
          clear hcx hcy
          have HBK := Lib.hid hbk; clear hbk
          have HBK1 := Lib.hid hbk1; clear hbk1
          have hk1 : kk < l.length := by omega
          cases h1 : (xn.toList == yn.toList)
          · go_wp2_with fail
            go_quiet (fail)
            go_wp2
            go_roundw
            case rel => exact ⟨kk + 1, by omega, by go_num, HN.out (by simp [clashS, *]), below_drewN HBK.out _, below_drewN HBK1.out _⟩
            case measure => simp [intOf]; omega
          · cases h2 : (xv.toList == yv.toList)
            · cases xo
              · cases yo
                · go_wp2_with fail
                  go_quiet (fail)
                  go_wp2
                  go_ret
                  exact ⟨by simp, below_drewN HBK.out _⟩
                · go_wp2_with fail
                  go_quiet (fail)
                  go_wp2
                  go_roundw
                  case rel => exact ⟨kk + 1, by omega, by go_num, HN.out (by simp [clashS, *]), below_drewN HBK.out _, below_drewN HBK1.out _⟩
                  case measure => simp [intOf]; omega
              · go_wp2_with fail
                go_quiet (fail)
                go_wp2
                go_roundw
                case rel => exact ⟨kk + 1, by omega, by go_num, HN.out (by simp [clashS, *]), below_drewN HBK.out _, below_drewN HBK1.out _⟩
                case measure => simp [intOf]; omega
            · go_wp2_with fail
              go_quiet (fail)
              go_wp2
              go_ret
              exact ⟨by simp, below_drewN HBK.out _⟩
        · obtain rfl : kk = ii := by omega
          have HA := Lib.hid hap; clear hap
          have lb : w.heap.size < wr.heap.size := Nat.lt_of_lt_of_le l1 hbk1.size
          have lbw : b < wr.heap.size := Nat.lt_trans hb lb
          have k1 : ∀ (q : Calm wr) (k_ : Nat), q.now.cell? ⟨w.heap.size, k_, none⟩ = (#[.string rn, .string rv, .bool ro, .int .i64 rk, .bool rw, .int .i64 ri, .bool rd, .int .i64 ra, .int .i64 rs] : Array Value)[k_]? := fun q k_ => (q.cell _ _ lb).trans ((hbk1.cell (p := ⟨w.heap.size, k_, none⟩) l1).trans (r1 k_))
          have c0 : ∀ q : Calm wr, q.now.cell? ⟨b, off + kk * 9, none⟩ = some (.string xn) := fun q => (q.cell _ _ lbw).trans (hcx 0 _ rfl)
          have c1 : ∀ q : Calm wr, q.now.cell? ⟨b, off + kk * 9 + 1, none⟩ = some (.string xv) := fun q => (q.cell _ _ lbw).trans (hcx 1 _ rfl)
          have c2 : ∀ q : Calm wr, q.now.cell? ⟨b, off + kk * 9 + 2, none⟩ = some (.bool xo) := fun q => (q.cell _ _ lbw).trans (hcx 2 _ rfl)
          have c3 : ∀ q : Calm wr, q.now.cell? ⟨b, off + kk * 9 + 3, none⟩ = some (.int .i64 xk) := fun q => (q.cell _ _ lbw).trans (hcx 3 _ rfl)
          have c4 : ∀ q : Calm wr, q.now.cell? ⟨b, off + kk * 9 + 4, none⟩ = some (.bool xw) := fun q => (q.cell _ _ lbw).trans (hcx 4 _ rfl)
          have c5 : ∀ q : Calm wr, q.now.cell? ⟨b, off + kk * 9 + 5, none⟩ = some (.int .i64 xi) := fun q => (q.cell _ _ lbw).trans (hcx 5 _ rfl)
          have c6 : ∀ q : Calm wr, q.now.cell? ⟨b, off + kk * 9 + 6, none⟩ = some (.bool xd) := fun q => (q.cell _ _ lbw).trans (hcx 6 _ rfl)
          have c7 : ∀ q : Calm wr, q.now.cell? ⟨b, off + kk * 9 + 7, none⟩ = some (.int .i64 xa) := fun q => (q.cell _ _ lbw).trans (hcx 7 _ rfl)
          have c8 : ∀ q : Calm wr, q.now.cell? ⟨b, off + kk * 9 + 8, none⟩ = some (.int .i64 xs) := fun q => (q.cell _ _ lbw).trans (hcx 8 _ rfl)
          clear hcx
          have HBK := Lib.hid hbk; clear hbk
          have HBK1 := Lib.hid hbk1; clear hbk1
          have hk1 : kk < l.length := by omega
          have c0 := fun w : World => match_any rn rv ro rw rd rk ri ra rs xn xv xo xw xd xk xi xa xs true w
          cases hm : matchS rn rv xn xv xo (seenS xd xi) true
          · rw [hm] at c0
            have HN := Lib.hid (HO.out.no HX.out hm)
            clear hm
            have C0 := Lib.hid c0; clear c0
            go_wp2_with fail
            refine wp_region_calm (by kernel_rfl) (by kernel_rfl) ?_
            repeat (first
              | go_big_quiet_skip
              | (go_big_quiet_want
                 go_big_quiet_op
                 first
                   | go_big_quiet_on
                   | (apply Exists.intro
                      refine ⟨fun _ => ?_, ?_⟩
                      · first
                          | (go_at_call 15; exact calm_call (C0.out _))
                      go_big_quiet_on)))
            refine wpQuiet_nil ?_
            intro _ hw'
            obtain ⟨⟨w5, hb5⟩, rfl⟩ := hw'
            go_wp2
            go_roundw
            case rel => exact ⟨kk + 1, mm, by omega, by go_num, rfl, HN.out, HBK.out.trans (hb5.mono HBK.out.size), HBK1.out.trans (hb5.mono HBK1.out.size)⟩
            case measure => simp [intOf]; omega
          · rw [hm] at c0
            have HN := Lib.hid (HO.out.yes HX.out hm HA.out)
            clear hm
            have C0 := Lib.hid c0; clear c0
            go_wp2_with fail
            refine wp_region_calm (by kernel_rfl) (by kernel_rfl) ?_
            repeat (first
              | go_big_quiet_skip
              | (go_big_quiet_want
                 go_big_quiet_op
                 first
                   | go_big_quiet_on
                   | (apply Exists.intro
                      refine ⟨fun _ => ?_, ?_⟩
                      · first
                          | (go_at_call 15; exact calm_call (C0.out _))
                      go_big_quiet_on)))
            refine wpQuiet_nil ?_
            intro _ hw'
            obtain ⟨⟨w5, hb5⟩, rfl⟩ := hw'
            go_wp2
            go_roundw
            case rel => exact ⟨kk + 1, mm + 1, by omega, by go_num, by go_num, HN.out, HBK.out.trans (hb5.mono HBK.out.size), HBK1.out.trans (hb5.mono HBK1.out.size)⟩
            case measure => simp [intOf]; omega
    · have hm1 : mm ≤ 1 := hmm
      go_wp2
      go_ret
      exact ⟨by simp; omega, hbel⟩
end Go.Proofs.Ythajdklmklaelaa
