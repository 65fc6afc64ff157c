/-
  Layer 17: what the state's functions do, as relations between plain states (no memory).
  Conditions: none. (My own text.)
-/
import Derived.Test.YtpenejigebkkmaaTmj
namespace Go.Proofs.Ytpenejigebkkmaa
open Go.RowKit Spm
set_option linter.unusedVariables false
set_option linter.unusedSimpArgs false

/-- Exit: the answer, the new state, the new space. -/
def ExitP (t : Ts) (L : List Rg) (id n : Int) (t' : Ts) (L' : List Rg) : Prop := match efind ThE.k t.tl id with
  | none => n = 171 ∧ t' = t ∧ L' = L
  | some x => n = 0 ∧ t' = { t with tl := edel ThE.k t.tl id } ∧ ∃ az, az.Perm (x.bl.map fun y => y.x.at_) ∧ L' = (unmapS (unmapsS L az) x.tp).1
theorem ExitE.plain {s a : Nat} {t : Ts} {L : List Rg} {Y : Res} {B : Nat} {w w' : World} {e : Ending} {id : Int} (h : ExitE s t a L Y B w id e w') : ∃ n t' L', ExitP t L id n t' L' ∧ e = .returned (.int .i64 n) ∧ Has B w w' (Tl s t' (Star (Sp a L') Y)) := by
  unfold ExitE at h
  unfold ExitP
  cases hf : efind ThE.k t.tl id with
  | none => rw [hf] at h; exact ⟨171, t, L, ⟨rfl, rfl, rfl⟩, h.1, h.2⟩
  | some x =>
    rw [hf] at h
    obtain ⟨h1, az, h2, h3⟩ := h
    exact ⟨0, _, _, ⟨rfl, rfl, az, h2, rfl⟩, h1, h3⟩
/-- Release. -/
def RelP (t : Ts) (L : List Rg) (n r : Int) (t' : Ts) (L' : List Rg) : Prop := match efind MdE.k t.ml n with
  | none => r = 170 ∧ t' = t ∧ L' = L
  | some x => if x.x.st = true then r = 172 ∧ t' = t ∧ L' = L else r = 0 ∧ t' = { t with tl := t.tl.map (dropB n), ml := edel MdE.k t.ml n } ∧ ∃ az, az.Perm (gath n t.tl) ∧ L' = unmapsS L az
theorem RelE.plain {s a : Nat} {t : Ts} {L : List Rg} {Y : Res} {B : Nat} {w w' : World} {e : Ending} {n : Int} (h : RelE s t a L Y B w n e w') : ∃ r t' L', RelP t L n r t' L' ∧ e = .returned (.int .i64 r) ∧ Has B w w' (Tl s t' (Star (Sp a L') Y)) := by
  unfold RelE at h
  unfold RelP
  cases hf : efind MdE.k t.ml n with
  | none => rw [hf] at h; exact ⟨170, t, L, ⟨rfl, rfl, rfl⟩, h.1, h.2⟩
  | some x =>
    rw [hf] at h
    dsimp only at h ⊢
    by_cases hs : x.x.st = true
    · rw [if_pos hs] at h
      exact ⟨172, t, L, by rw [if_pos hs]; exact ⟨rfl, rfl, rfl⟩, h.1, h.2⟩
    · rw [if_neg hs] at h
      obtain ⟨h1, az, h2, h3⟩ := h
      exact ⟨0, _, _, by rw [if_neg hs]; exact ⟨rfl, rfl, az, h2, rfl⟩, h1, h3⟩
/-- Start. -/
def StartP (t : Ts) (L : List Rg) (id n r : Int) (t' : Ts) (L' : List Rg) : Prop :=
  if (efind ThE.k t.tl id).isSome = true ∨ id < 0 ∨ 16 ≤ id then n = 0 ∧ r = 171 ∧ t' = t ∧ L' = L
  else if (mapS L (max 8 t.ar) 3).2.2 = 0 then n = (mapS L (max 8 t.ar) 3).2.1 ∧ r = 0 ∧ (∃ g, t' = { t with sd := true, tl := t.tl ++ [⟨id, (mapS L (max 8 t.ar) 3).2.1, g, [], 0, t.tc⟩], tc := t.tc + 1 }) ∧ ∃ mz, List.Perm mz (t.ml.filter fun y => y.x.st) ∧ L' = pokes (mapS L (max 8 t.ar) 3).2.1 (mapS L (max 8 t.ar) 3).1 mz
  else n = 0 ∧ r = (mapS L (max 8 t.ar) 3).2.2 ∧ t' = t ∧ L' = (mapS L (max 8 t.ar) 3).1
theorem StartE.plain {s a : Nat} {t : Ts} {L : List Rg} {Y : Res} {B : Nat} {w w' : World} {e : Ending} {id : Int} (h : StartE s t a L Y B w id e w') : ∃ n r t' L', StartP t L id n r t' L' ∧ e = .returned (.tuple #[.int .i64 n, .int .i64 r]) ∧ Has B w w' (Tl s t' (Star (Sp a L') Y)) := by
  unfold StartE at h
  unfold StartP
  by_cases h1 : (efind ThE.k t.tl id).isSome = true ∨ id < 0 ∨ 16 ≤ id
  · rw [if_pos h1] at h
    exact ⟨0, 171, t, L, by rw [if_pos h1]; exact ⟨rfl, rfl, rfl, rfl⟩, h.1, h.2⟩
  · rw [if_neg h1] at h
    by_cases h2 : (mapS L (max 8 t.ar) 3).2.2 = 0
    · rw [if_pos h2] at h
      obtain ⟨mz, g, h3, h4, h5⟩ := h
      exact ⟨_, 0, _, _, by rw [if_neg h1, if_pos h2]; exact ⟨rfl, rfl, ⟨g, rfl⟩, mz, h3, rfl⟩, h4, h5⟩
    · rw [if_neg h2] at h
      exact ⟨0, _, t, _, by rw [if_neg h1, if_neg h2]; exact ⟨rfl, rfl, rfl, rfl⟩, h.1, h.2⟩
/-- Address. -/
def AddrBP (t : Ts) (L : List Rg) (id n off : Int) (x : ThE) (y : MdE) (p r : Int) (t' : Ts) (L' : List Rg) : Prop := match efind BkE.k x.bl n with
  | some b => p = wrap64 (b.x.at_ + off) ∧ r = 0 ∧ t' = t ∧ L' = L
  | none => if (mapS L y.x.size 3).2.2 = 0 then p = wrap64 ((mapS L y.x.size 3).2.1 + off) ∧ r = 0 ∧ t' = { t with tl := addB id n x y (mapS L y.x.size 3).2.1 t.tl } ∧ L' = (setS (mapS L y.x.size 3).1 (mapS L y.x.size 3).2.1 (fullB y.x) 0).1
    else p = 0 ∧ r = (mapS L y.x.size 3).2.2 ∧ t' = t ∧ L' = (mapS L y.x.size 3).1
def AddrP (t : Ts) (L : List Rg) (id n off p r : Int) (t' : Ts) (L' : List Rg) : Prop := match efind ThE.k t.tl id with
  | none => p = 0 ∧ r = 171 ∧ t' = t ∧ L' = L
  | some x => match efind MdE.k t.ml n with
    | none => p = 0 ∧ r = 170 ∧ t' = t ∧ L' = L
    | some y => if off < 0 ∨ y.x.size ≤ off then p = 0 ∧ r = 1 ∧ t' = t ∧ L' = L
      else if y.x.st = true then p = wrap64 (wrap64 (x.tp + y.x.bh) + off) ∧ r = 0 ∧ t' = t ∧ L' = L
      else AddrBP t L id n off x y p r t' L'
theorem AddrE.plain {s a : Nat} {t : Ts} {L : List Rg} {Y : Res} {B : Nat} {w w' : World} {e : Ending} {id n off : Int} (h : AddrE s t a L Y B w id n off e w') : ∃ p r t' L', AddrP t L id n off p r t' L' ∧ e = .returned (.tuple #[.int .i64 p, .int .i64 r]) ∧ Has B w w' (Tl s t' (Star (Sp a L') Y)) := by
  unfold AddrE at h
  unfold AddrP
  cases hf : efind ThE.k t.tl id with
  | none => rw [hf] at h; exact ⟨0, 171, t, L, ⟨rfl, rfl, rfl, rfl⟩, h.1, h.2⟩
  | some x =>
    rw [hf] at h
    dsimp only at h ⊢
    cases hm : efind MdE.k t.ml n with
    | none => rw [hm] at h; exact ⟨0, 170, t, L, ⟨rfl, rfl, rfl, rfl⟩, h.1, h.2⟩
    | some y =>
      rw [hm] at h
      dsimp only at h ⊢
      unfold AddrM at h
      by_cases h1 : off < 0 ∨ y.x.size ≤ off
      · rw [if_pos h1] at h
        exact ⟨0, 1, t, L, by rw [if_pos h1]; exact ⟨rfl, rfl, rfl, rfl⟩, h.1, h.2⟩
      · rw [if_neg h1] at h
        by_cases h2 : y.x.st = true
        · rw [if_pos h2] at h
          exact ⟨_, 0, t, L, by rw [if_neg h1, if_pos h2]; exact ⟨rfl, rfl, rfl, rfl⟩, h.1, h.2⟩
        · rw [if_neg h2] at h
          unfold AddrB at h
          have hgo : ∀ p r t' L', AddrBP t L id n off x y p r t' L' → (if off < 0 ∨ y.x.size ≤ off then p = 0 ∧ r = 1 ∧ t' = t ∧ L' = L else if y.x.st = true then p = wrap64 (wrap64 (x.tp + y.x.bh) + off) ∧ r = 0 ∧ t' = t ∧ L' = L else AddrBP t L id n off x y p r t' L') := fun p r t' L' hh => by rw [if_neg h1, if_neg h2]; exact hh
          cases hb : efind BkE.k x.bl n with
          | some b =>
            rw [hb] at h
            exact ⟨_, 0, t, L, hgo _ _ _ _ (by unfold AddrBP; rw [hb]; exact ⟨rfl, rfl, rfl, rfl⟩), h.1, h.2⟩
          | none =>
            rw [hb] at h
            dsimp only at h
            by_cases h3 : (mapS L y.x.size 3).2.2 = 0
            · rw [if_pos h3] at h
              exact ⟨_, 0, _, _, hgo _ _ _ _ (by unfold AddrBP; rw [hb]; dsimp only; rw [if_pos h3]; exact ⟨rfl, rfl, rfl, rfl⟩), h.1, h.2⟩
            · rw [if_neg h3] at h
              exact ⟨0, _, t, _, hgo _ _ _ _ (by unfold AddrBP; rw [hb]; dsimp only; rw [if_neg h3]; exact ⟨rfl, rfl, rfl, rfl⟩), h.1, h.2⟩
/-- Register. -/
def RegP (t : Ts) (tm : List UInt8) (size : Int) (st : Bool) (n r : Int) (t' : Ts) : Prop :=
  if size < 1 ∨ 4096 < size ∨ size < tm.length then n = 0 ∧ r = 1 ∧ t' = t
  else if st = true ∧ t.sd = true then n = 0 ∧ r = 172 ∧ t' = t
  else ∃ m, FreeN t.ml m ∧ (if 64 < m then n = 0 ∧ r = 3 ∧ t' = t
    else if st = true ∧ wrap64 (4096 - t.ar) < upT size then n = 0 ∧ r = 3 ∧ t' = gsetT (gsetT t m (wrap64 (gget t.gl m + 1))) m (wrap64 (wrap64 (gget t.gl m + 1) - 1))
    else n = m ∧ r = 0 ∧ ∃ v, t' = regT t m tm size st v)
theorem RegE.plain {s : Nat} {t : Ts} {Y : Res} {B : Nat} {w w' : World} {e : Ending} {tm : List UInt8} {size : Int} {st : Bool} (h : RegE s t Y B w tm size st e w') : ∃ n r t', RegP t tm size st n r t' ∧ e = .returned (.tuple #[.int .i64 n, .int .i64 r]) ∧ Has B w w' (Tl s t' Y) := by
  unfold RegE at h
  unfold RegP
  by_cases h1 : size < 1 ∨ 4096 < size ∨ size < tm.length
  · rw [if_pos h1] at h
    exact ⟨0, 1, t, by rw [if_pos h1]; exact ⟨rfl, rfl, rfl⟩, h.1, h.2⟩
  rw [if_neg h1] at h
  by_cases h2 : st = true ∧ t.sd = true
  · rw [if_pos h2] at h
    exact ⟨0, 172, t, by rw [if_neg h1, if_pos h2]; exact ⟨rfl, rfl, rfl⟩, h.1, h.2⟩
  rw [if_neg h2] at h
  obtain ⟨m, hm, h⟩ := h
  by_cases h3 : 64 < m
  · rw [if_pos h3] at h
    exact ⟨0, 3, t, by rw [if_neg h1, if_neg h2]; exact ⟨m, hm, by rw [if_pos h3]; exact ⟨rfl, rfl, rfl⟩⟩, h.1, h.2⟩
  rw [if_neg h3] at h
  by_cases h4 : st = true ∧ wrap64 (4096 - t.ar) < upT size
  · rw [if_pos h4] at h
    exact ⟨0, 3, _, by rw [if_neg h1, if_neg h2]; exact ⟨m, hm, by rw [if_neg h3, if_pos h4]; exact ⟨rfl, rfl, rfl⟩⟩, h.1, h.2⟩
  rw [if_neg h4] at h
  obtain ⟨h5, v, h6⟩ := h
  exact ⟨m, 0, _, by rw [if_neg h1, if_neg h2]; exact ⟨m, hm, by rw [if_neg h3, if_neg h4]; exact ⟨rfl, rfl, v, rfl⟩⟩, h5, h6⟩
end Go.Proofs.Ytpenejigebkkmaa
