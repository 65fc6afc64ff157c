/-
  Layer 17: what the state's functions do, as relations between plain states (no memory).
  Layer 17: an act by the program (does): kinds 2, 3, 4, and no kind.
  Layer 17: an act by the program (does): the kind 5, and no kind.
  Layer 17: an act by the program (does): the kind 1.
  Layer 17: an act by the program (does): the kind 6, and whatever kind.
  Layer 17: the plain invariant of the state is kept by whatever act.
  Layer 17: a script's acts played (played): the state and the space behind them.
  Conditions: none. (My own text.)
-/
import Derived.Test.YtpenejigebkkmaaGreatTmj
import Derived.Test.YtpenejigebkkmaaGreatTgf
import Derived.Test.YtpenejigebkkmaaGreatSp5
namespace Go.Proofs.YtpenejigebkkmaaGreat
open Go.RowKit Spm
set_option linter.unusedVariables false
set_option linter.unusedSimpArgs false

/-- Exit: the answer, the new state, the new space. -/
def ExitP (t : Ts) (L : List Rg) (id n : Int) (t' : Ts) (L' : List Rg) : Prop := match efind ThE.k t.tl id with
  | none => n = 171 ∧ t' = t ∧ L' = L
  | some x => n = 0 ∧ t' = { t with tl := edel ThE.k t.tl id } ∧ ∃ az, az.Perm (x.bl.map fun y => y.x.at_) ∧ L' = (unmapS (unmapsS L az) x.tp).1
theorem ExitE.plain {s a : Nat} {t : Ts} {L : List Rg} {Y : Res} {B : Nat} {w w' : World} {e : Ending} {id : Int} (h : ExitE s t a L Y B w id e w') : ∃ n t' L', ExitP t L id n t' L' ∧ e = .returned (.int .i64 n) ∧ Has B w w' (Tl s t' (Star (Sp a L') Y)) := by
  unfold ExitE at h
  unfold ExitP
  cases hf : efind ThE.k t.tl id with
  | none => rw [hf] at h; exact ⟨171, t, L, ⟨rfl, rfl, rfl⟩, h.1, h.2⟩
  | some x =>
    rw [hf] at h
    obtain ⟨h1, az, h2, h3⟩ := h
    exact ⟨0, _, _, ⟨rfl, rfl, az, h2, rfl⟩, h1, h3⟩
/-- Release. -/
def RelP (t : Ts) (L : List Rg) (n r : Int) (t' : Ts) (L' : List Rg) : Prop := match efind MdE.k t.ml n with
  | none => r = 170 ∧ t' = t ∧ L' = L
  | some x => if x.x.st = true then r = 172 ∧ t' = t ∧ L' = L else r = 0 ∧ t' = { t with tl := t.tl.map (dropB n), ml := edel MdE.k t.ml n } ∧ ∃ az, az.Perm (gath n t.tl) ∧ L' = unmapsS L az
theorem RelE.plain {s a : Nat} {t : Ts} {L : List Rg} {Y : Res} {B : Nat} {w w' : World} {e : Ending} {n : Int} (h : RelE s t a L Y B w n e w') : ∃ r t' L', RelP t L n r t' L' ∧ e = .returned (.int .i64 r) ∧ Has B w w' (Tl s t' (Star (Sp a L') Y)) := by
  unfold RelE at h
  unfold RelP
  cases hf : efind MdE.k t.ml n with
  | none => rw [hf] at h; exact ⟨170, t, L, ⟨rfl, rfl, rfl⟩, h.1, h.2⟩
  | some x =>
    rw [hf] at h
    dsimp only at h ⊢
    by_cases hs : x.x.st = true
    · rw [if_pos hs] at h
      exact ⟨172, t, L, by rw [if_pos hs]; exact ⟨rfl, rfl, rfl⟩, h.1, h.2⟩
    · rw [if_neg hs] at h
      obtain ⟨h1, az, h2, h3⟩ := h
      exact ⟨0, _, _, by rw [if_neg hs]; exact ⟨rfl, rfl, az, h2, rfl⟩, h1, h3⟩
/-- Start. -/
def StartP (t : Ts) (L : List Rg) (id n r : Int) (t' : Ts) (L' : List Rg) : Prop :=
  if (efind ThE.k t.tl id).isSome = true ∨ id < 0 ∨ 16 ≤ id then n = 0 ∧ r = 171 ∧ t' = t ∧ L' = L
  else if (mapS L (max 8 t.ar) 3).2.2 = 0 then n = (mapS L (max 8 t.ar) 3).2.1 ∧ r = 0 ∧ (∃ g, t' = { t with sd := true, tl := t.tl ++ [⟨id, (mapS L (max 8 t.ar) 3).2.1, g, [], 0, t.tc⟩], tc := t.tc + 1 }) ∧ ∃ mz, List.Perm mz (t.ml.filter fun y => y.x.st) ∧ L' = pokes (mapS L (max 8 t.ar) 3).2.1 (mapS L (max 8 t.ar) 3).1 mz
  else n = 0 ∧ r = (mapS L (max 8 t.ar) 3).2.2 ∧ t' = t ∧ L' = (mapS L (max 8 t.ar) 3).1
theorem StartE.plain {s a : Nat} {t : Ts} {L : List Rg} {Y : Res} {B : Nat} {w w' : World} {e : Ending} {id : Int} (h : StartE s t a L Y B w id e w') : ∃ n r t' L', StartP t L id n r t' L' ∧ e = .returned (.tuple #[.int .i64 n, .int .i64 r]) ∧ Has B w w' (Tl s t' (Star (Sp a L') Y)) := by
  unfold StartE at h
  unfold StartP
  by_cases h1 : (efind ThE.k t.tl id).isSome = true ∨ id < 0 ∨ 16 ≤ id
  · rw [if_pos h1] at h
    exact ⟨0, 171, t, L, by rw [if_pos h1]; exact ⟨rfl, rfl, rfl, rfl⟩, h.1, h.2⟩
  · rw [if_neg h1] at h
    by_cases h2 : (mapS L (max 8 t.ar) 3).2.2 = 0
    · rw [if_pos h2] at h
      obtain ⟨mz, g, h3, h4, h5⟩ := h
      exact ⟨_, 0, _, _, by rw [if_neg h1, if_pos h2]; exact ⟨rfl, rfl, ⟨g, rfl⟩, mz, h3, rfl⟩, h4, h5⟩
    · rw [if_neg h2] at h
      exact ⟨0, _, t, _, by rw [if_neg h1, if_neg h2]; exact ⟨rfl, rfl, rfl, rfl⟩, h.1, h.2⟩
/-- Address. -/
def AddrBP (t : Ts) (L : List Rg) (id n off : Int) (x : ThE) (y : MdE) (p r : Int) (t' : Ts) (L' : List Rg) : Prop := match efind BkE.k x.bl n with
  | some b => p = wrap64 (b.x.at_ + off) ∧ r = 0 ∧ t' = t ∧ L' = L
  | none => if (mapS L y.x.size 3).2.2 = 0 then p = wrap64 ((mapS L y.x.size 3).2.1 + off) ∧ r = 0 ∧ t' = { t with tl := addB id n x y (mapS L y.x.size 3).2.1 t.tl } ∧ L' = (setS (mapS L y.x.size 3).1 (mapS L y.x.size 3).2.1 (fullB y.x) 0).1
    else p = 0 ∧ r = (mapS L y.x.size 3).2.2 ∧ t' = t ∧ L' = (mapS L y.x.size 3).1
def AddrP (t : Ts) (L : List Rg) (id n off p r : Int) (t' : Ts) (L' : List Rg) : Prop := match efind ThE.k t.tl id with
  | none => p = 0 ∧ r = 171 ∧ t' = t ∧ L' = L
  | some x => match efind MdE.k t.ml n with
    | none => p = 0 ∧ r = 170 ∧ t' = t ∧ L' = L
    | some y => if off < 0 ∨ y.x.size ≤ off then p = 0 ∧ r = 1 ∧ t' = t ∧ L' = L
      else if y.x.st = true then p = wrap64 (wrap64 (x.tp + y.x.bh) + off) ∧ r = 0 ∧ t' = t ∧ L' = L
      else AddrBP t L id n off x y p r t' L'
theorem AddrE.plain {s a : Nat} {t : Ts} {L : List Rg} {Y : Res} {B : Nat} {w w' : World} {e : Ending} {id n off : Int} (h : AddrE s t a L Y B w id n off e w') : ∃ p r t' L', AddrP t L id n off p r t' L' ∧ e = .returned (.tuple #[.int .i64 p, .int .i64 r]) ∧ Has B w w' (Tl s t' (Star (Sp a L') Y)) := by
  unfold AddrE at h
  unfold AddrP
  cases hf : efind ThE.k t.tl id with
  | none => rw [hf] at h; exact ⟨0, 171, t, L, ⟨rfl, rfl, rfl, rfl⟩, h.1, h.2⟩
  | some x =>
    rw [hf] at h
    dsimp only at h ⊢
    cases hm : efind MdE.k t.ml n with
    | none => rw [hm] at h; exact ⟨0, 170, t, L, ⟨rfl, rfl, rfl, rfl⟩, h.1, h.2⟩
    | some y =>
      rw [hm] at h
      dsimp only at h ⊢
      unfold AddrM at h
      by_cases h1 : off < 0 ∨ y.x.size ≤ off
      · rw [if_pos h1] at h
        exact ⟨0, 1, t, L, by rw [if_pos h1]; exact ⟨rfl, rfl, rfl, rfl⟩, h.1, h.2⟩
      · rw [if_neg h1] at h
        by_cases h2 : y.x.st = true
        · rw [if_pos h2] at h
          exact ⟨_, 0, t, L, by rw [if_neg h1, if_pos h2]; exact ⟨rfl, rfl, rfl, rfl⟩, h.1, h.2⟩
        · rw [if_neg h2] at h
          unfold AddrB at h
          have hgo : ∀ p r t' L', AddrBP t L id n off x y p r t' L' → (if off < 0 ∨ y.x.size ≤ off then p = 0 ∧ r = 1 ∧ t' = t ∧ L' = L else if y.x.st = true then p = wrap64 (wrap64 (x.tp + y.x.bh) + off) ∧ r = 0 ∧ t' = t ∧ L' = L else AddrBP t L id n off x y p r t' L') := fun p r t' L' hh => by rw [if_neg h1, if_neg h2]; exact hh
          cases hb : efind BkE.k x.bl n with
          | some b =>
            rw [hb] at h
            exact ⟨_, 0, t, L, hgo _ _ _ _ (by unfold AddrBP; rw [hb]; exact ⟨rfl, rfl, rfl, rfl⟩), h.1, h.2⟩
          | none =>
            rw [hb] at h
            dsimp only at h
            by_cases h3 : (mapS L y.x.size 3).2.2 = 0
            · rw [if_pos h3] at h
              exact ⟨_, 0, _, _, hgo _ _ _ _ (by unfold AddrBP; rw [hb]; dsimp only; rw [if_pos h3]; exact ⟨rfl, rfl, rfl, rfl⟩), h.1, h.2⟩
            · rw [if_neg h3] at h
              exact ⟨0, _, t, _, hgo _ _ _ _ (by unfold AddrBP; rw [hb]; dsimp only; rw [if_neg h3]; exact ⟨rfl, rfl, rfl, rfl⟩), h.1, h.2⟩
/-- Register. -/
def RegP (t : Ts) (tm : List UInt8) (size : Int) (st : Bool) (n r : Int) (t' : Ts) : Prop :=
  if size < 1 ∨ 4096 < size ∨ size < tm.length then n = 0 ∧ r = 1 ∧ t' = t
  else if st = true ∧ t.sd = true then n = 0 ∧ r = 172 ∧ t' = t
  else ∃ m, FreeN t.ml m ∧ (if 64 < m then n = 0 ∧ r = 3 ∧ t' = t
    else if st = true ∧ wrap64 (4096 - t.ar) < upT size then n = 0 ∧ r = 3 ∧ t' = gsetT (gsetT t m (wrap64 (gget t.gl m + 1))) m (wrap64 (wrap64 (gget t.gl m + 1) - 1))
    else n = m ∧ r = 0 ∧ ∃ v, t' = regT t m tm size st v)
theorem RegE.plain {s : Nat} {t : Ts} {Y : Res} {B : Nat} {w w' : World} {e : Ending} {tm : List UInt8} {size : Int} {st : Bool} (h : RegE s t Y B w tm size st e w') : ∃ n r t', RegP t tm size st n r t' ∧ e = .returned (.tuple #[.int .i64 n, .int .i64 r]) ∧ Has B w w' (Tl s t' Y) := by
  unfold RegE at h
  unfold RegP
  by_cases h1 : size < 1 ∨ 4096 < size ∨ size < tm.length
  · rw [if_pos h1] at h
    exact ⟨0, 1, t, by rw [if_pos h1]; exact ⟨rfl, rfl, rfl⟩, h.1, h.2⟩
  rw [if_neg h1] at h
  by_cases h2 : st = true ∧ t.sd = true
  · rw [if_pos h2] at h
    exact ⟨0, 172, t, by rw [if_neg h1, if_pos h2]; exact ⟨rfl, rfl, rfl⟩, h.1, h.2⟩
  rw [if_neg h2] at h
  obtain ⟨m, hm, h⟩ := h
  by_cases h3 : 64 < m
  · rw [if_pos h3] at h
    exact ⟨0, 3, t, by rw [if_neg h1, if_neg h2]; exact ⟨m, hm, by rw [if_pos h3]; exact ⟨rfl, rfl, rfl⟩⟩, h.1, h.2⟩
  rw [if_neg h3] at h
  by_cases h4 : st = true ∧ wrap64 (4096 - t.ar) < upT size
  · rw [if_pos h4] at h
    exact ⟨0, 3, _, by rw [if_neg h1, if_neg h2]; exact ⟨m, hm, by rw [if_neg h3, if_pos h4]; exact ⟨rfl, rfl, rfl⟩⟩, h.1, h.2⟩
  rw [if_neg h4] at h
  obtain ⟨h5, v, h6⟩ := h
  exact ⟨m, 0, _, by rw [if_neg h1, if_neg h2]; exact ⟨m, hm, by rw [if_neg h3, if_neg h4]; exact ⟨rfl, rfl, v, rfl⟩⟩, h5, h6⟩
end Go.Proofs.YtpenejigebkkmaaGreat

namespace Go.Proofs.YtpenejigebkkmaaGreat
open Go.RowKit Spm
set_option linter.unusedVariables false
set_option linter.unusedSimpArgs false

attribute [local irreducible] wpList
structure TAct where
  d : Int
  n : Int
  th : Int
  sz : Int
  st : Bool
  b : List UInt8
def actA (x : TAct) (A : Option Addr) (c : Nat) : Array Value := #[.int .i64 x.d, .int .i64 x.n, .int .i64 x.th, .int .i64 x.sz, .bool x.st, .slice A x.b.length c]
/-- What an act does: its answer, its error, the state and the space behind it. -/
def DoesT (x : TAct) (t : Ts) (L : List Rg) (n r : Int) (t' : Ts) (L' : List Rg) : Prop :=
  if x.d = 1 then RegP t x.b x.sz x.st n r t' ∧ L' = L
  else if x.d = 2 then n = 0 ∧ RelP t L x.n r t' L'
  else if x.d = 3 then StartP t L x.th n r t' L'
  else if x.d = 4 then n = 0 ∧ ExitP t L x.th r t' L'
  else if x.d = 5 ∨ x.d = 6 then ∃ L1, AddrP t L x.th x.n x.sz n r t' L1 ∧ L' = if r = 0 ∧ x.d = 6 ∧ 0 < x.b.length then (setS L1 n (x.b.take 1) 2).1 else L1
  else n = 0 ∧ r = 0 ∧ t' = t ∧ L' = L
def DoesE (s a : Nat) (t : Ts) (L : List Rg) (Y : Res) (B : Nat) (w : World) (x : TAct) (e : Ending) (w' : World) : Prop := ∃ n r t' L', DoesT x t L n r t' L' ∧ e = .returned (.tuple #[.int .i64 n, .int .i64 r]) ∧ Has B w w' (Tl s t' (Star (Sp a L') Y))
structure TInv (t : Ts) : Prop where
  good : TsGood t
  ok : MdsOk t.ml
  key : MdsKey t.ml
set_option maxRecDepth 100000 in
set_option maxHeartbeats 4000000 in
theorem tdoes_rel {B : Nat} {w wr : World} {Y : Res} [hY : Fr Y] {s a : Nat} {t : Ts} {L : List Rg} (h : Has B w wr (Tl s t (Star (Sp a L) Y))) (hi : TInv t) (x : TAct) (A : Option Addr) (c : Nat) (hd : x.d = 2) : Calls Tryz.prog 12 #[.pointer (some ⟨s, 0, none⟩), .pointer (some ⟨a, 0, none⟩), .agg (actA x A c)] wr (DoesE s a t L Y B w x) := by
  obtain ⟨xd, xn, xth, xsz, xst, xb⟩ := x
  obtain rfl : xd = 2 := hd
  have HI := Lib.hid hi
  have hA : actA ⟨2, xn, xth, xsz, xst, xb⟩ A c = #[.int .i64 (2 : Int), .int .i64 xn, .int .i64 xth, .int .i64 xsz, .bool xst, .slice A xb.length c] := rfl
  rw [hA]
  clear hA
  obtain ⟨M0, hM0⟩ : ∃ M0 : Hid (Has B w wr (Tl s t (Star (Sp a L) Y))), M0 = Lib.hid h := ⟨_, rfl⟩
  clear hM0 h hi
  have M1 := Lib.hid (M0.out.newcel 40 #[.int .i64 (2 : Int), .int .i64 xn, .int .i64 xth, .int .i64 xsz, .bool xst, .slice A xb.length c])
  go_enter Tryz.func12, Tryz.ntmps12
  go_upto_region 1 with fail
  obtain ⟨W, hW⟩ : ∃ W, wr.alloc (.cells #[.int .i64 (2 : Int), .int .i64 xn, .int .i64 xth, .int .i64 xsz, .bool xst, .slice A xb.length c] 40) = W := ⟨_, rfl⟩
  rw [hW] at M1 ⊢
  clear hW M0
  generalize wr.heap.size = q at M1 ⊢
  have q0 : W.cell? ⟨q, 0, none⟩ = some (.int .i64 (2 : Int)) := M1.out.cellat q 0 rfl
  have q1 : W.cell? ⟨q, 1, none⟩ = some (.int .i64 xn) := M1.out.cellat q 1 rfl
  have NA := Lib.hid (M1.out.norm (Tl s t (Star (Sp a L) (Star (Cel q 40 #[.int .i64 2, .int .i64 xn, .int .i64 xth, .int .i64 xsz, .bool xst, .slice A xb.length c]) Y))))
  have C := Lib.hid (trel_any NA.out HI.out.good xn)
  clear M1
  go_wp2_with fail
  refine (C.out).mono ?_
  intro e w1 hE
  obtain ⟨r1, t1, L1, hP, rfl, m⟩ := RelE.plain hE
  have MZ := Lib.hid (m.norm (Tl s t1 (Star (Sp a L1) Y)))
  have HE : Hid (DoesE s a t L Y B w ⟨2, xn, xth, xsz, xst, xb⟩ (.returned (.tuple #[.int .i64 0, .int .i64 r1])) w1) := Lib.hid ⟨_, _, t1, L1, by unfold DoesT; simp only [show (((2 : Int) = 1) = False) by decide, show (((2 : Int) = 2) = True) by decide, show (((2 : Int) = 3) = False) by decide, show (((2 : Int) = 4) = False) by decide, if_true, if_false]; exact ⟨by first | trivial | rfl, hP⟩, rfl, MZ.out⟩
  clear hE hP m MZ C
  go_wp2_with fail
  go_ret2
  exact HE.out
set_option maxRecDepth 100000 in
set_option maxHeartbeats 4000000 in
theorem tdoes_start {B : Nat} {w wr : World} {Y : Res} [hY : Fr Y] {s a : Nat} {t : Ts} {L : List Rg} (h : Has B w wr (Tl s t (Star (Sp a L) Y))) (hi : TInv t) (x : TAct) (A : Option Addr) (c : Nat) (hd : x.d = 3) : Calls Tryz.prog 12 #[.pointer (some ⟨s, 0, none⟩), .pointer (some ⟨a, 0, none⟩), .agg (actA x A c)] wr (DoesE s a t L Y B w x) := by
  obtain ⟨xd, xn, xth, xsz, xst, xb⟩ := x
  obtain rfl : xd = 3 := hd
  have HI := Lib.hid hi
  have hA : actA ⟨3, xn, xth, xsz, xst, xb⟩ A c = #[.int .i64 (3 : Int), .int .i64 xn, .int .i64 xth, .int .i64 xsz, .bool xst, .slice A xb.length c] := rfl
  rw [hA]
  clear hA
  obtain ⟨M0, hM0⟩ : ∃ M0 : Hid (Has B w wr (Tl s t (Star (Sp a L) Y))), M0 = Lib.hid h := ⟨_, rfl⟩
  clear hM0 h hi
  have M1 := Lib.hid (M0.out.newcel 40 #[.int .i64 (3 : Int), .int .i64 xn, .int .i64 xth, .int .i64 xsz, .bool xst, .slice A xb.length c])
  go_enter Tryz.func12, Tryz.ntmps12
  go_upto_region 1 with fail
  obtain ⟨W, hW⟩ : ∃ W, wr.alloc (.cells #[.int .i64 (3 : Int), .int .i64 xn, .int .i64 xth, .int .i64 xsz, .bool xst, .slice A xb.length c] 40) = W := ⟨_, rfl⟩
  rw [hW] at M1 ⊢
  clear hW M0
  generalize wr.heap.size = q at M1 ⊢
  have q0 : W.cell? ⟨q, 0, none⟩ = some (.int .i64 (3 : Int)) := M1.out.cellat q 0 rfl
  have q2 : W.cell? ⟨q, 2, none⟩ = some (.int .i64 xth) := M1.out.cellat q 2 rfl
  have NA := Lib.hid (M1.out.norm (Tl s t (Star (Sp a L) (Star (Cel q 40 #[.int .i64 3, .int .i64 xn, .int .i64 xth, .int .i64 xsz, .bool xst, .slice A xb.length c]) Y))))
  have C := Lib.hid (tstart_any NA.out HI.out.good HI.out.ok xth)
  clear M1
  go_wp2_with fail
  refine (C.out).mono ?_
  intro e w1 hE
  obtain ⟨n1, r1, t1, L1, hP, rfl, m⟩ := StartE.plain hE
  have MZ := Lib.hid (m.norm (Tl s t1 (Star (Sp a L1) Y)))
  have HE : Hid (DoesE s a t L Y B w ⟨3, xn, xth, xsz, xst, xb⟩ (.returned (.tuple #[.int .i64 n1, .int .i64 r1])) w1) := Lib.hid ⟨_, _, t1, L1, by unfold DoesT; simp only [show (((3 : Int) = 1) = False) by decide, show (((3 : Int) = 2) = False) by decide, show (((3 : Int) = 3) = True) by decide, show (((3 : Int) = 4) = False) by decide, if_true, if_false]; exact hP, rfl, MZ.out⟩
  clear hE hP m MZ C
  go_wp2_with fail
  go_ret2
  exact HE.out
set_option maxRecDepth 100000 in
set_option maxHeartbeats 4000000 in
theorem tdoes_exit {B : Nat} {w wr : World} {Y : Res} [hY : Fr Y] {s a : Nat} {t : Ts} {L : List Rg} (h : Has B w wr (Tl s t (Star (Sp a L) Y))) (hi : TInv t) (x : TAct) (A : Option Addr) (c : Nat) (hd : x.d = 4) : Calls Tryz.prog 12 #[.pointer (some ⟨s, 0, none⟩), .pointer (some ⟨a, 0, none⟩), .agg (actA x A c)] wr (DoesE s a t L Y B w x) := by
  obtain ⟨xd, xn, xth, xsz, xst, xb⟩ := x
  obtain rfl : xd = 4 := hd
  have HI := Lib.hid hi
  have hA : actA ⟨4, xn, xth, xsz, xst, xb⟩ A c = #[.int .i64 (4 : Int), .int .i64 xn, .int .i64 xth, .int .i64 xsz, .bool xst, .slice A xb.length c] := rfl
  rw [hA]
  clear hA
  obtain ⟨M0, hM0⟩ : ∃ M0 : Hid (Has B w wr (Tl s t (Star (Sp a L) Y))), M0 = Lib.hid h := ⟨_, rfl⟩
  clear hM0 h hi
  have M1 := Lib.hid (M0.out.newcel 40 #[.int .i64 (4 : Int), .int .i64 xn, .int .i64 xth, .int .i64 xsz, .bool xst, .slice A xb.length c])
  go_enter Tryz.func12, Tryz.ntmps12
  go_upto_region 1 with fail
  obtain ⟨W, hW⟩ : ∃ W, wr.alloc (.cells #[.int .i64 (4 : Int), .int .i64 xn, .int .i64 xth, .int .i64 xsz, .bool xst, .slice A xb.length c] 40) = W := ⟨_, rfl⟩
  rw [hW] at M1 ⊢
  clear hW M0
  generalize wr.heap.size = q at M1 ⊢
  have q0 : W.cell? ⟨q, 0, none⟩ = some (.int .i64 (4 : Int)) := M1.out.cellat q 0 rfl
  have q2 : W.cell? ⟨q, 2, none⟩ = some (.int .i64 xth) := M1.out.cellat q 2 rfl
  have NA := Lib.hid (M1.out.norm (Tl s t (Star (Sp a L) (Star (Cel q 40 #[.int .i64 4, .int .i64 xn, .int .i64 xth, .int .i64 xsz, .bool xst, .slice A xb.length c]) Y))))
  have C := Lib.hid (texit_any NA.out HI.out.good xth)
  clear M1
  go_wp2_with fail
  refine (C.out).mono ?_
  intro e w1 hE
  obtain ⟨r1, t1, L1, hP, rfl, m⟩ := ExitE.plain hE
  have MZ := Lib.hid (m.norm (Tl s t1 (Star (Sp a L1) Y)))
  have HE : Hid (DoesE s a t L Y B w ⟨4, xn, xth, xsz, xst, xb⟩ (.returned (.tuple #[.int .i64 0, .int .i64 r1])) w1) := Lib.hid ⟨_, _, t1, L1, by unfold DoesT; simp only [show (((4 : Int) = 1) = False) by decide, show (((4 : Int) = 2) = False) by decide, show (((4 : Int) = 3) = False) by decide, show (((4 : Int) = 4) = True) by decide, if_true, if_false]; exact ⟨by first | trivial | rfl, hP⟩, rfl, MZ.out⟩
  clear hE hP m MZ C
  go_wp2_with fail
  go_ret2
  exact HE.out
end Go.Proofs.YtpenejigebkkmaaGreat

namespace Go.Proofs.YtpenejigebkkmaaGreat
open Go.RowKit Spm
set_option linter.unusedVariables false
set_option linter.unusedSimpArgs false

attribute [local irreducible] wpList
set_option maxRecDepth 100000 in
set_option maxHeartbeats 4000000 in
theorem tdoes_none {B : Nat} {w wr : World} {Y : Res} [hY : Fr Y] {s a : Nat} {t : Ts} {L : List Rg} (h : Has B w wr (Tl s t (Star (Sp a L) Y))) (hi : TInv t) (x : TAct) (A : Option Addr) (c : Nat) (hd : x.d ≠ 1 ∧ x.d ≠ 2 ∧ x.d ≠ 3 ∧ x.d ≠ 4 ∧ x.d ≠ 5 ∧ x.d ≠ 6) : Calls Tryz.prog 12 #[.pointer (some ⟨s, 0, none⟩), .pointer (some ⟨a, 0, none⟩), .agg (actA x A c)] wr (DoesE s a t L Y B w x) := by
  obtain ⟨xd, xn, xth, xsz, xst, xb⟩ := x
  obtain ⟨h1, h2, h3, h4, h5, h6⟩ : xd ≠ 1 ∧ xd ≠ 2 ∧ xd ≠ 3 ∧ xd ≠ 4 ∧ xd ≠ 5 ∧ xd ≠ 6 := hd
  have HE : Hid (∀ w', Has B w w' (Tl s t (Star (Sp a L) Y)) → DoesE s a t L Y B w ⟨xd, xn, xth, xsz, xst, xb⟩ (.returned (.tuple #[.int .i64 0, .int .i64 0])) w') := Lib.hid (fun w' hh => ⟨0, 0, t, L, by unfold DoesT; rw [if_neg h1, if_neg h2, if_neg h3, if_neg h4, if_neg (fun hx => hx.elim h5 h6)]; exact ⟨rfl, rfl, rfl, rfl⟩, rfl, hh⟩)
  have HI := Lib.hid hi
  have hA : actA ⟨xd, xn, xth, xsz, xst, xb⟩ A c = #[.int .i64 xd, .int .i64 xn, .int .i64 xth, .int .i64 xsz, .bool xst, .slice A xb.length c] := rfl
  rw [hA]
  clear hA
  obtain ⟨M0, hM0⟩ : ∃ M0 : Hid (Has B w wr (Tl s t (Star (Sp a L) Y))), M0 = Lib.hid h := ⟨_, rfl⟩
  clear hM0 h hi
  have M1 := Lib.hid (M0.out.newcel 40 #[.int .i64 xd, .int .i64 xn, .int .i64 xth, .int .i64 xsz, .bool xst, .slice A xb.length c])
  go_enter Tryz.func12, Tryz.ntmps12
  go_upto_region 1 with fail
  obtain ⟨W, hW⟩ : ∃ W, wr.alloc (.cells #[.int .i64 xd, .int .i64 xn, .int .i64 xth, .int .i64 xsz, .bool xst, .slice A xb.length c] 40) = W := ⟨_, rfl⟩
  rw [hW] at M1 ⊢
  clear hW M0
  generalize wr.heap.size = q at M1 ⊢
  have q0 : W.cell? ⟨q, 0, none⟩ = some (.int .i64 xd) := M1.out.cellat q 0 rfl
  have NZ := Lib.hid (M1.out.norm (Tl s t (Star (Sp a L) Y)))
  clear M1
  go_wp2_with fail
  go_ret2
  exact HE.out _ NZ.out
set_option maxRecDepth 100000 in
set_option maxHeartbeats 4000000 in
theorem tdoes_addr {B : Nat} {w wr : World} {Y : Res} [hY : Fr Y] {s a : Nat} {t : Ts} {L : List Rg} (h : Has B w wr (Tl s t (Star (Sp a L) Y))) (hi : TInv t) (x : TAct) (A : Option Addr) (c : Nat) (hd : x.d = 5) : Calls Tryz.prog 12 #[.pointer (some ⟨s, 0, none⟩), .pointer (some ⟨a, 0, none⟩), .agg (actA x A c)] wr (DoesE s a t L Y B w x) := by
  obtain ⟨xd, xn, xth, xsz, xst, xb⟩ := x
  obtain rfl : xd = 5 := hd
  have HI := Lib.hid hi
  have hA : actA ⟨5, xn, xth, xsz, xst, xb⟩ A c = #[.int .i64 5, .int .i64 xn, .int .i64 xth, .int .i64 xsz, .bool xst, .slice A xb.length c] := rfl
  rw [hA]
  clear hA
  obtain ⟨M0, hM0⟩ : ∃ M0 : Hid (Has B w wr (Tl s t (Star (Sp a L) Y))), M0 = Lib.hid h := ⟨_, rfl⟩
  clear hM0 h hi
  have M1 := Lib.hid (M0.out.newcel 40 #[.int .i64 5, .int .i64 xn, .int .i64 xth, .int .i64 xsz, .bool xst, .slice A xb.length c])
  go_enter Tryz.func12, Tryz.ntmps12
  go_upto_region 1 with fail
  obtain ⟨W, hW⟩ : ∃ W, wr.alloc (.cells #[.int .i64 5, .int .i64 xn, .int .i64 xth, .int .i64 xsz, .bool xst, .slice A xb.length c] 40) = W := ⟨_, rfl⟩
  rw [hW] at M1 ⊢
  clear hW M0
  generalize wr.heap.size = q at M1 ⊢
  have q0 : W.cell? ⟨q, 0, none⟩ = some (.int .i64 5) := M1.out.cellat q 0 rfl
  have q1 : W.cell? ⟨q, 1, none⟩ = some (.int .i64 xn) := M1.out.cellat q 1 rfl
  have q2 : W.cell? ⟨q, 2, none⟩ = some (.int .i64 xth) := M1.out.cellat q 2 rfl
  have q3 : W.cell? ⟨q, 3, none⟩ = some (.int .i64 xsz) := M1.out.cellat q 3 rfl
  have NA := Lib.hid (M1.out.norm (Tl s t (Star (Sp a L) (Star (Cel q 40 #[.int .i64 5, .int .i64 xn, .int .i64 xth, .int .i64 xsz, .bool xst, .slice A xb.length c]) Y))))
  have C := Lib.hid (taddr_any NA.out HI.out.ok xth xn xsz)
  clear M1
  go_wp2_with fail
  refine (C.out).mono ?_
  intro e w1 hE
  obtain ⟨n1, r1, t1, L1, hP, rfl, m⟩ := AddrE.plain hE
  have m0 : w1.cell? ⟨q, 0, none⟩ = some (.int .i64 5) := m.cellat q 0 rfl
  have MZ := Lib.hid (m.norm (Tl s t1 (Star (Sp a L1) Y)))
  have HE : Hid (DoesE s a t L Y B w ⟨5, xn, xth, xsz, xst, xb⟩ (.returned (.tuple #[.int .i64 n1, .int .i64 r1])) w1) := Lib.hid ⟨_, _, t1, L1, by
    unfold DoesT
    rw [if_neg (show ¬ (5 : Int) = 1 by decide), if_neg (show ¬ (5 : Int) = 2 by decide), if_neg (show ¬ (5 : Int) = 3 by decide), if_neg (show ¬ (5 : Int) = 4 by decide), if_pos (.inl rfl)]
    exact ⟨L1, hP, by rw [if_neg (fun hx => absurd hx.2.1 (show ¬ (5 : Int) = 6 by decide))]⟩, rfl, MZ.out⟩
  clear hE hP m MZ C q0 q1 q2 q3
  by_cases hr : r1 = 0
  · subst hr
    go_wp2_with fail
    go_ret2
    exact HE.out
  · go_wp2_with fail
    go_ret2
    exact HE.out
end Go.Proofs.YtpenejigebkkmaaGreat

namespace Go.Proofs.YtpenejigebkkmaaGreat
open Go.RowKit Spm
set_option linter.unusedVariables false
set_option linter.unusedSimpArgs false

attribute [local irreducible] wpList
theorem own_back {B : Nat} {w wr : World} {Y : Res} [hY : Fr Y] {g : Nat} {b : List UInt8} (h : Has B w wr (Star (Cel g 5 (lentC b).toArray) Y)) (A : Option Addr) (c : Nat) (hb : b.length ≤ 140737488351232) (hs : SrcB wr A b) (hlt : b ≠ [] → ∀ p, A = some p → p.block < B) :
    Calls Tryz.prog 25 #[.slice (some ⟨g, 0, none⟩) b.length (b.length + 3), .slice A b.length c] wr fun e w' => e = .returned (.bool true) ∧ Has B w w' Y := by
  have hg : B ≤ g := by
    obtain ⟨F, ⟨F1, F2, h1, _, _, g1, _⟩, h2⟩ := h.own
    exact h2 g (g1 g h1.2)
  refine (h.call (X' := Emp) (R := fun e _ => e = .returned (.bool true)) fun F ⟨hc, hF⟩ => (back_any g A c b hb wr hc (fun hne => by
    obtain ⟨bb, off, hA, hcc⟩ := hs hne
    have := hlt hne _ hA
    exact ⟨bb, off, hA, by intro e; subst e; exact absurd hg (by have h9 : bb < B := this; omega), hcc⟩)).mono fun e w' ⟨e1, e2⟩ => ⟨e1, ⟨trivial, e2.mono fun k e => by subst e; exact hF⟩⟩).mono ?_
  rintro e w' ⟨h1, h2⟩
  exact ⟨h1, h2.right⟩
theorem lent_src {w : World} {g : Nat} {b : List UInt8} (h : Blk w g 5 (lentC b).toArray) : SrcB w (some ⟨g, 0, none⟩) b := fun _ => ⟨g, 0, rfl, fun j x hj => by
  rw [Nat.zero_add, h.cell]
  have hl : j < b.length := (List.getElem?_eq_some_iff.1 hj).1
  unfold lentC
  rw [List.getElem?_toArray, List.getElem?_append_left (by simpa using hl), List.getElem?_map, hj]
  rfl⟩
set_option maxRecDepth 100000 in
set_option maxHeartbeats 4000000 in
theorem tdoes_reg {B : Nat} {w wr : World} {Y : Res} [hY : Fr Y] {s a : Nat} {t : Ts} {L : List Rg} (h : Has B w wr (Tl s t (Star (Sp a L) Y))) (hi : TInv t) (x : TAct) (A : Option Addr) (c : Nat) (hd : x.d = 1) (hb : x.b.length ≤ 140737488351232) (hsb : ∀ w', Below B w w' → SrcB w' A x.b) (hlt : x.b ≠ [] → ∀ p, A = some p → p.block < B) : Calls Tryz.prog 12 #[.pointer (some ⟨s, 0, none⟩), .pointer (some ⟨a, 0, none⟩), .agg (actA x A c)] wr (DoesE s a t L Y B w x) := by
  obtain ⟨xd, xn, xth, xsz, xst, xb⟩ := x
  obtain rfl : xd = 1 := hd
  have HSB : Hid (∀ w', Below B w w' → SrcB w' A xb) := Lib.hid hsb
  have HLT : Hid (xb ≠ [] → ∀ p, A = some p → p.block < B) := Lib.hid hlt
  have HB : Hid (xb.length ≤ 140737488351232) := Lib.hid hb
  clear hsb hlt hb
  have HI := Lib.hid hi
  have hA : actA ⟨1, xn, xth, xsz, xst, xb⟩ A c = #[.int .i64 1, .int .i64 xn, .int .i64 xth, .int .i64 xsz, .bool xst, .slice A xb.length c] := rfl
  rw [hA]
  clear hA
  obtain ⟨M0, hM0⟩ : ∃ M0 : Hid (Has B w wr (Tl s t (Star (Sp a L) Y))), M0 = Lib.hid h := ⟨_, rfl⟩
  clear hM0 h hi
  have M1 := Lib.hid (M0.out.newcel 40 #[.int .i64 1, .int .i64 xn, .int .i64 xth, .int .i64 xsz, .bool xst, .slice A xb.length c])
  go_enter Tryz.func12, Tryz.ntmps12
  go_upto_region 1 with fail
  obtain ⟨W, hW⟩ : ∃ W, wr.alloc (.cells #[.int .i64 1, .int .i64 xn, .int .i64 xth, .int .i64 xsz, .bool xst, .slice A xb.length c] 40) = W := ⟨_, rfl⟩
  rw [hW] at M1 ⊢
  clear hW M0
  generalize wr.heap.size = q at M1 ⊢
  have q0 : W.cell? ⟨q, 0, none⟩ = some (.int .i64 1) := M1.out.cellat q 0 rfl
  have q5 : W.cell? ⟨q, 5, none⟩ = some (.slice A xb.length c) := M1.out.cellat q 5 rfl
  have C1 := Lib.hid (lent_any A c xb HB.out W (HSB.out W M1.out.bel))
  go_wp2_with fail
  refine (C1.out).mono ?_
  rintro e w1 ⟨rfl, hblk, hbel⟩
  have Na := Lib.hid (M1.out.add hbel (Y := Cel W.heap.size 5 (lentC xb).toArray) ⟨hblk, Nat.le_refl _⟩)
  clear hblk hbel C1 q0 q5 M1
  generalize W.heap.size = g at Na ⊢
  have q3 : w1.cell? ⟨q, 3, none⟩ = some (.int .i64 xsz) := Na.out.cellat q 3 rfl
  have q4 : w1.cell? ⟨q, 4, none⟩ = some (.bool xst) := Na.out.cellat q 4 rfl
  have NA := Lib.hid (Na.out.norm (Tl s t (Star (Sp a L) (Star (Cel g 5 (lentC xb).toArray) (Star (Cel q 40 #[.int .i64 1, .int .i64 xn, .int .i64 xth, .int .i64 xsz, .bool xst, .slice A xb.length c]) Y)))))
  have C2 := Lib.hid (treg_any NA.out HI.out.key (c := xb.length + 3) (lent_src (NA.out.getc g)) (fun _ p hp e => by
    cases hp
    have h1 : w1.heap[g]? = _ := NA.out.getc g
    have h2 := NA.out.getm t.gg
    have e' : g = t.gg := e
    rw [← e', h1] at h2
    cases h2) xsz xst)
  go_wp2_with fail
  refine (C2.out).mono ?_
  intro e w2 hE
  obtain ⟨n1, r1, t1, hP, rfl, m⟩ := RegE.plain hE
  have Nb := Lib.hid (m.norm (Star (Cel g 5 (lentC xb).toArray) (Star (Cel q 40 #[.int .i64 1, .int .i64 xn, .int .i64 xth, .int .i64 xsz, .bool xst, .slice A xb.length c]) (Tl s t1 (Star (Sp a L) Y)))))
  have HP := Lib.hid hP
  clear hE hP m C2 q3 q4 Na NA
  have q5 : w2.cell? ⟨q, 5, none⟩ = some (.slice A xb.length c) := Nb.out.cellat q 5 rfl
  have C3 := Lib.hid (own_back Nb.out A c HB.out (HSB.out w2 Nb.out.bel) HLT.out)
  go_wp2_with fail
  refine (C3.out).mono ?_
  rintro e w3 ⟨rfl, m⟩
  have MZ := Lib.hid (m.norm (Tl s t1 (Star (Sp a L) Y)))
  have HE : Hid (DoesE s a t L Y B w ⟨1, xn, xth, xsz, xst, xb⟩ (.returned (.tuple #[.int .i64 n1, .int .i64 r1])) w3) := Lib.hid ⟨_, _, t1, L, by unfold DoesT; rw [if_pos rfl]; exact ⟨HP.out, rfl⟩, rfl, MZ.out⟩
  clear m C3 Nb q5 MZ
  go_wp2_with fail
  go_ret2
  exact HE.out
end Go.Proofs.YtpenejigebkkmaaGreat

namespace Go.Proofs.YtpenejigebkkmaaGreat
open Go.RowKit Spm
set_option linter.unusedVariables false
set_option linter.unusedSimpArgs false

attribute [local irreducible] wpList
theorem addrP_hi {t : Ts} {L : List Rg} {id n off p r : Int} {t' : Ts} {L' : List Rg} (h : AddrP t L id n off p r t' L') : p ≤ 9223372036854775807 := by
  have hw : ∀ z : Int, wrap64 z ≤ 9223372036854775807 := fun z => by unfold wrap64; omega
  unfold AddrP at h
  cases hf : efind ThE.k t.tl id with
  | none => rw [hf] at h; rw [h.1]; omega
  | some x =>
    rw [hf] at h
    dsimp only at h
    cases hm : efind MdE.k t.ml n with
    | none => rw [hm] at h; rw [h.1]; omega
    | some y =>
      rw [hm] at h
      dsimp only at h
      split at h
      · rw [h.1]; omega
      · split at h
        · rw [h.1]; exact hw _
        · unfold AddrBP at h
          split at h
          · rw [h.1]; exact hw _
          · split at h
            · rw [h.1]; exact hw _
            · rw [h.1]; omega
set_option maxRecDepth 100000 in
set_option maxHeartbeats 4000000 in
theorem tdoes_store {B : Nat} {w wr : World} {Y : Res} [hY : Fr Y] {s a : Nat} {t : Ts} {L : List Rg} (h : Has B w wr (Tl s t (Star (Sp a L) Y))) (hi : TInv t) (x : TAct) (A : Option Addr) (c : Nat) (hd : x.d = 6) (hb : x.b.length ≤ 140737488351232) (hsb : ∀ w', Below B w w' → SrcB w' A x.b) : Calls Tryz.prog 12 #[.pointer (some ⟨s, 0, none⟩), .pointer (some ⟨a, 0, none⟩), .agg (actA x A c)] wr (DoesE s a t L Y B w x) := by
  obtain ⟨xd, xn, xth, xsz, xst, xb⟩ := x
  obtain rfl : xd = 6 := hd
  have HSB : Hid (∀ w', Below B w w' → SrcB w' A xb) := Lib.hid hsb
  have hb' : xb.length ≤ 140737488351232 := hb
  clear hsb hb
  have HI := Lib.hid hi
  have hA : actA ⟨6, xn, xth, xsz, xst, xb⟩ A c = #[.int .i64 6, .int .i64 xn, .int .i64 xth, .int .i64 xsz, .bool xst, .slice A xb.length c] := rfl
  rw [hA]
  clear hA
  obtain ⟨M0, hM0⟩ : ∃ M0 : Hid (Has B w wr (Tl s t (Star (Sp a L) Y))), M0 = Lib.hid h := ⟨_, rfl⟩
  clear hM0 h hi
  obtain ⟨kb, hkb⟩ : ∃ kb, xb.length = kb := ⟨_, rfl⟩
  rw [hkb] at hb' ⊢
  have HKB := Lib.hid hkb
  clear hkb
  have M1 := Lib.hid (M0.out.newcel 40 #[.int .i64 6, .int .i64 xn, .int .i64 xth, .int .i64 xsz, .bool xst, .slice A kb c])
  go_enter Tryz.func12, Tryz.ntmps12
  go_upto_region 1 with fail
  obtain ⟨W, hW⟩ : ∃ W, wr.alloc (.cells #[.int .i64 6, .int .i64 xn, .int .i64 xth, .int .i64 xsz, .bool xst, .slice A kb c] 40) = W := ⟨_, rfl⟩
  rw [hW] at M1 ⊢
  clear hW M0
  generalize wr.heap.size = q at M1 ⊢
  have q0 : W.cell? ⟨q, 0, none⟩ = some (.int .i64 6) := M1.out.cellat q 0 rfl
  have q1 : W.cell? ⟨q, 1, none⟩ = some (.int .i64 xn) := M1.out.cellat q 1 rfl
  have q2 : W.cell? ⟨q, 2, none⟩ = some (.int .i64 xth) := M1.out.cellat q 2 rfl
  have q3 : W.cell? ⟨q, 3, none⟩ = some (.int .i64 xsz) := M1.out.cellat q 3 rfl
  have NA := Lib.hid (M1.out.norm (Tl s t (Star (Sp a L) (Star (Cel q 40 #[.int .i64 6, .int .i64 xn, .int .i64 xth, .int .i64 xsz, .bool xst, .slice A kb c]) Y))))
  have C := Lib.hid (taddr_any NA.out HI.out.ok xth xn xsz)
  clear M1
  go_wp2_with fail
  refine (C.out).mono ?_
  intro e w1 hE
  obtain ⟨n1, r1, t1, L1, hP, rfl, m⟩ := AddrE.plain hE
  have m0 : w1.cell? ⟨q, 0, none⟩ = some (.int .i64 6) := m.cellat q 0 rfl
  have m5 : w1.cell? ⟨q, 5, none⟩ = some (.slice A kb c) := m.cellat q 5 rfl
  have HM := Lib.hid m
  have HP := Lib.hid hP
  have HDT : Hid (∀ w' L', L' = (if r1 = 0 ∧ 0 < kb then (setS L1 n1 (xb.take 1) 2).1 else L1) → Has B w w' (Tl s t1 (Star (Sp a L') Y)) → DoesE s a t L Y B w ⟨6, xn, xth, xsz, xst, xb⟩ (.returned (.tuple #[.int .i64 n1, .int .i64 r1])) w') := Lib.hid (fun w' L' hL hh => ⟨_, _, t1, L', by
    unfold DoesT
    rw [if_neg (show ¬ (6 : Int) = 1 by decide), if_neg (show ¬ (6 : Int) = 2 by decide), if_neg (show ¬ (6 : Int) = 3 by decide), if_neg (show ¬ (6 : Int) = 4 by decide), if_pos (.inr rfl)]
    refine ⟨L1, hP, ?_⟩
    rw [hL]
    show _ = if r1 = 0 ∧ (6 : Int) = 6 ∧ 0 < xb.length then (setS L1 n1 (xb.take 1) 2).1 else L1
    rw [HKB.out]
    by_cases hc : r1 = 0 ∧ 0 < kb
    · rw [if_pos hc, if_pos ⟨hc.1, rfl, hc.2⟩]
    · rw [if_neg hc, if_neg (fun hx => hc ⟨hx.1, hx.2.2⟩)], rfl, hh⟩)
  clear hE hP m C q0 q1 q2 q3 NA
  by_cases hr : r1 = 0
  · subst hr
    by_cases hk : 0 < kb
    · cases xb with
      | nil => exact absurd hk (by rw [← HKB.out]; decide)
      | cons x0 rest =>
        obtain ⟨bb, off, hA2, hc2⟩ := HSB.out w1 HM.out.bel (by simp)
        have c0 : w1.cell? ⟨bb, off, none⟩ = some (.int .u8 x0.toNat) := hc2 0 x0 rfl
        obtain ⟨kc, rfl⟩ : ∃ kc, kb = kc + 1 := ⟨kb - 1, by omega⟩
        subst hA2
        have Nb := Lib.hid (HM.out.newcel 5 #[.int .u8 x0.toNat])
        have HSC : Hid (SrcB (w1.alloc (.cells #[.int .u8 x0.toNat] 5)) (some ⟨w1.heap.size, 0, none⟩) [x0]) := Lib.hid (fun _ => ⟨w1.heap.size, 0, rfl, fun j x hj => by
          match j, hj with
          | 0, hj =>
            obtain rfl : x0 = x := by simpa using hj
            exact Nb.out.cellat w1.heap.size 0 rfl
          | j + 1, hj => simp at hj⟩)
        have C3 := Lib.hid (own_write (Nb.out.pick (Sp a L1)) n1 (addrP_hi HP.out) (some ⟨w1.heap.size, 0, none⟩) 1 [x0] (by show (1 : Nat) ≤ _; omega) HSC.out)
        clear hc2
        go_upto_region 18 with fail
        go_wp2_with fail
        refine (C3.out).mono ?_
        rintro e w3 ⟨rfl, m⟩
        have MZ := Lib.hid (m.norm (Tl s t1 (Star (Sp a (setS L1 n1 [x0] 2).1) Y)))
        have HE := Lib.hid (HDT.out w3 (setS L1 n1 [x0] 2).1 (by rw [if_pos ⟨by first | trivial | rfl, by omega⟩]; rfl) MZ.out)
        clear m MZ C3
        go_wp2_with fail
        go_ret2
        exact HE.out
    · obtain rfl : kb = 0 := by omega
      have MZ := Lib.hid (HM.out.norm (Tl s t1 (Star (Sp a L1) Y)))
      have HE := Lib.hid (HDT.out w1 L1 (by rw [if_neg (fun hx => absurd hx.2 (by decide))]) MZ.out)
      go_wp2_with fail
      go_ret2
      exact HE.out
  · have MZ := Lib.hid (HM.out.norm (Tl s t1 (Star (Sp a L1) Y)))
    have HE := Lib.hid (HDT.out w1 L1 (by rw [if_neg (fun hx => hr hx.1)]) MZ.out)
    go_wp2_with fail
    go_ret2
    exact HE.out
theorem tdoes_any {B : Nat} {w wr : World} {Y : Res} [hY : Fr Y] {s a : Nat} {t : Ts} {L : List Rg} (h : Has B w wr (Tl s t (Star (Sp a L) Y))) (hi : TInv t) (x : TAct) (A : Option Addr) (c : Nat) (hb : x.b.length ≤ 140737488351232) (hsb : ∀ w', Below B w w' → SrcB w' A x.b) (hlt : x.b ≠ [] → ∀ p, A = some p → p.block < B) : Calls Tryz.prog 12 #[.pointer (some ⟨s, 0, none⟩), .pointer (some ⟨a, 0, none⟩), .agg (actA x A c)] wr (DoesE s a t L Y B w x) := by
  by_cases h1 : x.d = 1
  · exact tdoes_reg h hi x A c h1 hb hsb hlt
  by_cases h2 : x.d = 2
  · exact tdoes_rel h hi x A c h2
  by_cases h3 : x.d = 3
  · exact tdoes_start h hi x A c h3
  by_cases h4 : x.d = 4
  · exact tdoes_exit h hi x A c h4
  by_cases h5 : x.d = 5
  · exact tdoes_addr h hi x A c h5
  by_cases h6 : x.d = 6
  · exact tdoes_store h hi x A c h6 hb hsb
  exact tdoes_none h hi x A c ⟨h1, h2, h3, h4, h5, h6⟩
end Go.Proofs.YtpenejigebkkmaaGreat

namespace Go.Proofs.YtpenejigebkkmaaGreat
open Go.RowKit Spm
set_option linter.unusedVariables false
set_option linter.unusedSimpArgs false

theorem edel_mem {α : Type} {key : α → Int} {k : Int} {y : α} : ∀ {l : List α}, y ∈ edel key l k → y ∈ l
  | [], h => h
  | e :: l, h => by
    unfold edel at h
    by_cases hk : k = key e
    · rw [if_pos hk] at h; exact List.mem_cons_of_mem _ h
    · rw [if_neg hk] at h
      rcases List.mem_cons.1 h with rfl | h
      · simp
      · exact List.mem_cons_of_mem _ (edel_mem h)
theorem TsGood.gset {t : Ts} (h : TsGood t) (n v : Int) : TsGood (gsetT t n v) :=
  ⟨h.gdm, by have := h.gdg.set n (.int .i64 v); rw [gsetL_m] at this; exact this, h.gdt, h.gdb⟩
theorem TInv.exit {t : Ts} {L : List Rg} {id r : Int} {t' : Ts} {L' : List Rg} (h : TInv t) (hp : ExitP t L id r t' L') : TInv t' := by
  unfold ExitP at hp
  cases hf : efind ThE.k t.tl id with
  | none => rw [hf] at hp; obtain ⟨-, rfl, -⟩ := hp; exact h
  | some x =>
    rw [hf] at hp
    obtain ⟨-, rfl, -⟩ := hp
    refine ⟨⟨h.good.gdm, h.good.gdg, ?_, fun y hy => h.good.gdb y (edel_mem hy)⟩, h.ok, h.key⟩
    have := h.good.gdt.del id
    rw [mdel_edel (ent := ThE.ent) (key := ThE.k) (fun _ => rfl)] at this
    exact this
theorem TInv.rel {t : Ts} {L : List Rg} {n r : Int} {t' : Ts} {L' : List Rg} (h : TInv t) (hp : RelP t L n r t' L') : TInv t' := by
  unfold RelP at hp
  cases hf : efind MdE.k t.ml n with
  | none => rw [hf] at hp; obtain ⟨-, rfl, -⟩ := hp; exact h
  | some x =>
    rw [hf] at hp
    dsimp only at hp
    split at hp
    · obtain ⟨-, rfl, -⟩ := hp; exact h
    · obtain ⟨-, rfl, -⟩ := hp
      refine ⟨⟨?_, h.good.gdg, ?_, ?_⟩, fun y hy => h.ok y (edel_mem hy), fun y hy => h.key y (edel_mem hy)⟩
      · have := h.good.gdm.del n
        rw [mdel_edel (ent := MdE.ent) (key := MdE.k) (fun _ => rfl)] at this
        exact this
      · have e : (t.tl.map (dropB n)).map ThE.ent = t.tl.map ThE.ent := by rw [List.map_map]; rfl
        show Good ((t.tl.map (dropB n)).map ThE.ent) t.tc
        rw [e]
        exact h.good.gdt
      · intro y hy
        obtain ⟨z, hz, rfl⟩ := List.mem_map.1 hy
        have := (h.good.gdb z hz).del n
        rw [mdel_edel (ent := BkE.ent) (key := BkE.k) (fun _ => rfl)] at this
        exact this
theorem TInv.start {t : Ts} {L : List Rg} {id n r : Int} {t' : Ts} {L' : List Rg} (h : TInv t) (hp : StartP t L id n r t' L') : TInv t' := by
  unfold StartP at hp
  split at hp
  · obtain ⟨-, -, rfl, -⟩ := hp; exact h
  · rename_i hn
    split at hp
    · obtain ⟨-, -, ⟨g, rfl⟩, -⟩ := hp
      have hfn : efind ThE.k t.tl id = none := by
        cases hf : efind ThE.k t.tl id with
        | none => rfl
        | some x => exact absurd (.inl (by rw [hf]; rfl)) hn
      refine ⟨⟨h.good.gdm, h.good.gdg, ?_, fun y hy => ?_⟩, h.ok, h.key⟩
      · have := h.good.gdt.set id (.agg (thA (mapS L (max 8 t.ar) 3).2.1 g))
        rw [mset_eset (ent := ThE.ent) (key := ThE.k) (st := ThE.b) (fun _ => rfl) (fun _ => rfl) (k := id) (v := .agg (thA (mapS L (max 8 t.ar) 3).2.1 g)) (mk := fun b => (⟨id, (mapS L (max 8 t.ar) 3).2.1, g, [], 0, b⟩ : ThE)) (fun _ => rfl), eset_new hfn, mclk_new (ent := ThE.ent) (key := ThE.k) (fun _ => rfl) hfn] at this
        exact this
      · rcases List.mem_append.1 hy with hy | hy
        · exact h.good.gdb y hy
        · obtain rfl := List.mem_singleton.1 hy
          exact Good.nil
    · obtain ⟨-, -, rfl, -⟩ := hp; exact h
theorem TInv.addr {t : Ts} {L : List Rg} {id n off p r : Int} {t' : Ts} {L' : List Rg} (h : TInv t) (hp : AddrP t L id n off p r t' L') : TInv t' := by
  unfold AddrP at hp
  cases hf : efind ThE.k t.tl id with
  | none => rw [hf] at hp; obtain ⟨-, -, rfl, -⟩ := hp; exact h
  | some x =>
    rw [hf] at hp
    dsimp only at hp
    cases hm : efind MdE.k t.ml n with
    | none => rw [hm] at hp; obtain ⟨-, -, rfl, -⟩ := hp; exact h
    | some y =>
      rw [hm] at hp
      dsimp only at hp
      split at hp
      · obtain ⟨-, -, rfl, -⟩ := hp; exact h
      · split at hp
        · obtain ⟨-, -, rfl, -⟩ := hp; exact h
        · unfold AddrBP at hp
          cases hb : efind BkE.k x.bl n with
          | some b => rw [hb] at hp; obtain ⟨-, -, rfl, -⟩ := hp; exact h
          | none =>
            rw [hb] at hp
            dsimp only at hp
            split at hp
            · obtain ⟨-, -, rfl, -⟩ := hp
              obtain ⟨l1, l2, hl, -, hkx, hset⟩ := efind_split hf
              have e3 : addB id n x y (mapS L y.x.size 3).2.1 t.tl = l1 ++ ⟨id, x.tp, x.g, x.bl ++ [newB n y (mapS L y.x.size 3).2.1 x.c], x.c + 1, x.b⟩ :: l2 := by unfold addB; exact hset _ _ _
              have e4 : (addB id n x y (mapS L y.x.size 3).2.1 t.tl).map ThE.ent = t.tl.map ThE.ent := by
                rw [e3, hl, List.map_append, List.map_append, List.map_cons, List.map_cons]
                have : ThE.ent ⟨id, x.tp, x.g, x.bl ++ [newB n y (mapS L y.x.size 3).2.1 x.c], x.c + 1, x.b⟩ = ThE.ent x := by unfold ThE.ent; rw [hkx]
                rw [this]
              refine ⟨⟨h.good.gdm, h.good.gdg, ?_, ?_⟩, h.ok, h.key⟩
              · show Good ((addB id n x y (mapS L y.x.size 3).2.1 t.tl).map ThE.ent) t.tc
                rw [e4]
                exact h.good.gdt
              · intro z hz
                have hz' : z ∈ l1 ++ (⟨id, x.tp, x.g, x.bl ++ [newB n y (mapS L y.x.size 3).2.1 x.c], x.c + 1, x.b⟩ : ThE) :: l2 := by rw [← e3]; exact hz
                have hx : x ∈ t.tl := (efind_mem hf).1
                rcases List.mem_append.1 hz' with hz' | hz'
                · exact h.good.gdb z (by rw [hl]; simp [hz'])
                · rcases List.mem_cons.1 hz' with rfl | hz'
                  · have := (h.good.gdb x hx).set n (.agg (bkA ⟨n, y.x.gen, (mapS L y.x.size 3).2.1, y.x.size⟩))
                    rw [mset_eset (ent := BkE.ent) (key := BkE.k) (st := BkE.b) (fun _ => rfl) (fun _ => rfl) (k := n) (v := .agg (bkA ⟨n, y.x.gen, (mapS L y.x.size 3).2.1, y.x.size⟩)) (mk := fun b => newB n y (mapS L y.x.size 3).2.1 b) (fun _ => rfl), eset_new hb, mclk_new (ent := BkE.ent) (key := BkE.k) (fun _ => rfl) hb] at this
                    exact this
                  · exact h.good.gdb z (by rw [hl]; simp [hz'])
            · obtain ⟨-, -, rfl, -⟩ := hp; exact h
theorem TInv.reg {t : Ts} {tm : List UInt8} {size : Int} {st : Bool} {n r : Int} {t' : Ts} (h : TInv t) (hp : RegP t tm size st n r t') : TInv t' := by
  unfold RegP at hp
  split at hp
  · obtain ⟨-, -, rfl⟩ := hp; exact h
  rename_i hbad
  split at hp
  · obtain ⟨-, -, rfl⟩ := hp; exact h
  obtain ⟨m, hm, hp⟩ := hp
  split at hp
  · obtain ⟨-, -, rfl⟩ := hp; exact h
  rename_i h64
  split at hp
  · obtain ⟨-, -, rfl⟩ := hp
    exact ⟨(h.good.gset _ _).gset _ _, h.ok, h.key⟩
  obtain ⟨-, -, v, rfl⟩ := hp
  have hfn := mszS_none h.key hm.2.2.2
  have hg := h.good.gset m (wrap64 (gget t.gl m + 1))
  refine ⟨⟨?_, hg.gdg, hg.gdt, hg.gdb⟩, fun y hy => ?_, fun y hy => ?_⟩
  · have := h.good.gdm.set m (.agg (mdA (newM t m tm size st v).x v))
    rw [mset_eset (ent := MdE.ent) (key := MdE.k) (st := MdE.b) (fun _ => rfl) (fun _ => rfl) (k := m) (v := .agg (mdA (newM t m tm size st v).x v)) (mk := fun b => (⟨m, (newM t m tm size st v).x, v, b⟩ : MdE)) (fun _ => rfl), eset_new hfn, mclk_new (ent := MdE.ent) (key := MdE.k) (fun _ => rfl) hfn] at this
    exact this
  · rcases List.mem_append.1 hy with hy | hy
    · exact h.ok y hy
    · obtain rfl := List.mem_singleton.1 hy
      exact ⟨show (tm.length : Int) ≤ size by omega, show size ≤ 4096 by omega⟩
  · rcases List.mem_append.1 hy with hy | hy
    · exact h.key y hy
    · obtain rfl := List.mem_singleton.1 hy
      exact ⟨show m ≤ 64 by omega, show 1 ≤ size by omega⟩
theorem TInv.does {x : TAct} {t : Ts} {L : List Rg} {n r : Int} {t' : Ts} {L' : List Rg} (h : TInv t) (hp : DoesT x t L n r t' L') : TInv t' := by
  unfold DoesT at hp
  split at hp
  · exact h.reg hp.1
  split at hp
  · exact h.rel hp.2
  split at hp
  · exact h.start hp
  split at hp
  · exact h.exit hp.2
  split at hp
  · obtain ⟨L1, hp, -⟩ := hp
    exact h.addr hp
  · obtain ⟨-, -, rfl, -⟩ := hp; exact h
theorem TInv.new (gm gg gt : Nat) : TInv (ts0 gm gg gt) := ⟨ts0_good gm gg gt, fun y hy => by simp [ts0] at hy, fun y hy => by simp [ts0] at hy⟩
end Go.Proofs.YtpenejigebkkmaaGreat

namespace Go.Proofs.YtpenejigebkkmaaGreat
open Go.RowKit Spm
set_option linter.unusedVariables false
set_option linter.unusedSimpArgs false

structure TActM where
  x : TAct
  A : Option Addr
  c : Nat
def TActM.cells (m : TActM) : List Value := [.int .i64 m.x.d, .int .i64 m.x.n, .int .i64 m.x.th, .int .i64 m.x.sz, .bool m.x.st, .slice m.A m.x.b.length m.c]
structure TActOk (w : World) (B : Nat) (m : TActM) : Prop where
  src : BytesAt w B m.A m.x.b
  len : m.x.b.length ≤ 140737488351232
/-- Acts in a list that came in. -/
def TActsV (w : World) (B : Nat) (v : Value) (l : List TActM) : Prop :=
  (∃ A c, v = .slice A 0 c ∧ l = []) ∨ ∃ b off c, v = .slice (some ⟨b, off, none⟩) l.length c ∧ b < B ∧ l.length ≤ maxLen ∧ ∀ i m, l[i]? = some m → TActOk w B m ∧ ∀ j u, m.cells[j]? = some u → w.cell? ⟨b, off + i * 6 + j, none⟩ = some u
theorem TActsV.at_ {w : World} {B : Nat} {v : Value} {l : List TActM} (h : TActsV w B v l) : ∃ A c, v = .slice A l.length c ∧ l.length ≤ maxLen ∧ ∀ i m, l[i]? = some m → ∃ b off, A = some ⟨b, off, none⟩ ∧ b < B ∧ TActOk w B m ∧ ∀ j u, m.cells[j]? = some u → w.cell? ⟨b, off + i * 6 + j, none⟩ = some u := by
  rcases h with ⟨A, c, rfl, rfl⟩ | ⟨b, off, c, rfl, hb, hm, h⟩
  · exact ⟨A, c, rfl, Nat.zero_le _, fun i m hi => by simp at hi⟩
  · exact ⟨_, c, rfl, hm, fun i m hi => ⟨b, off, rfl, hb, h i m hi⟩⟩
/-- What a script may lead to. -/
inductive PlayT : List TAct → Ts → List Rg → Prop where
  | nil (gm gg gt : Nat) : PlayT [] (ts0 gm gg gt) []
  | snoc {l : List TAct} {t : Ts} {L : List Rg} {x : TAct} {n r : Int} {t' : Ts} {L' : List Rg} : PlayT l t L → DoesT x t L n r t' L' → PlayT (l ++ [x]) t' L'
theorem PlayT.inv {l : List TAct} {t : Ts} {L : List Rg} (h : PlayT l t L) : TInv t := by
  induction h with
  | nil gm gg gt => exact TInv.new gm gg gt
  | snoc _ hd ih => exact ih.does hd
attribute [local irreducible] wpList
end Go.Proofs.YtpenejigebkkmaaGreat
