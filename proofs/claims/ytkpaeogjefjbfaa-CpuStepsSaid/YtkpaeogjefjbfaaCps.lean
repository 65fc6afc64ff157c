/-
  Layer 6, plain: what an instruction leaves; an instruction that is read back from its bytes in a region of its own.
  Conditions: none. (My own text.)
-/
import Derived.Test.YtkpaeogjefjbfaaCpt
import Derived.Test.YtkpaeogjefjbfaaCby
import Derived.Test.YtkpaeogjefjbfaaSp6
namespace Go.Proofs.Ytkpaeogjefjbfaa
open Go.RowKit Spm
set_option linter.unusedVariables false
set_option linter.unusedSimpArgs false

/-- Does an instruction store? -/
def stoI (i : Ins) : Prop := i.op = 10 ∨ i.op = 15 ∨ i.op = 16
structure RegOk (cx : Ctx) (L : List Rg) (i : Ins) (r : Ctx × Evt × List Rg) : Prop where
  tp : r.1.tp = cx.tp
  one : ∃ a, ∀ k, k < 15 → k ≠ a → r.1.r k = cx.r k
  sto : stoI i → ∀ k, k < 15 → r.1.r k = cx.r k
  mem : ¬ stoI i → r.2.2 = L
section
variable {cx : Ctx} {L : List Rg} {i : Ins}
theorem rg_same (c2 : Ctx) (e : Evt) (hr : c2.r = cx.r) (ht : c2.tp = cx.tp) (L2 : List Rg) (hm : ¬ stoI i → L2 = L) : RegOk cx L i (c2, e, L2) :=
  ⟨ht, ⟨0, fun k _ _ => by simp only [hr]⟩, fun _ k _ => by simp only [hr], hm⟩
theorem rg_put (c2 : Ctx) (e : Evt) (a : Nat) {v : Int} (hr : c2.r = upd cx.r a v) (ht : c2.tp = cx.tp) (hn : ¬ (i.op = 10 ∨ i.op = 15 ∨ i.op = 16)) : RegOk cx L i (c2, e, L) :=
  ⟨ht, ⟨a, fun k _ hk => by simp only [hr, upd]; rw [if_neg hk]⟩, fun h => absurd h hn, fun _ => rfl⟩
theorem rg_ld (c2 : Ctx) (a : Nat) (q : Int × Int) (hr : c2.r = cx.r) (ht : c2.tp = cx.tp) (hn : ¬ (i.op = 10 ∨ i.op = 15 ∨ i.op = 16)) {e : Evt} : RegOk cx L i (ldC c2 a q, e, L) := by
  unfold ldC
  split
  · exact rg_put _ e a (v := q.1) (by simp only [hr]) ht hn
  · exact rg_same _ e hr ht L (fun _ => rfl)
theorem rg_15 (c2 : Ctx) (e : Evt) {v : Int} (hr : c2.r = upd cx.r 15 v) (ht : c2.tp = cx.tp) (L2 : List Rg) (hm : ¬ stoI i → L2 = L) : RegOk cx L i (c2, e, L2) := by
  have key : ∀ k, k < 15 → c2.r k = cx.r k := fun k hk => by simp only [hr, upd]; rw [if_neg (by omega)]
  exact ⟨ht, ⟨0, fun k hk _ => key k hk⟩, fun _ k hk => key k hk, hm⟩
theorem rg_cal (nx t q : Int) (L2 : List Rg) (hm : ¬ stoI i → L2 = L) {e : Evt} : RegOk cx L i (calC cx nx t q, e, L2) := by
  unfold calC
  split
  · exact rg_15 _ e (by rfl) (by rfl) L2 hm
  · exact rg_same _ e (by rfl) (by rfl) L2 hm
theorem rg_ret (nx : Int) (q : Int × Int) (e : Evt) (hn : ¬ (i.op = 10 ∨ i.op = 15 ∨ i.op = 16)) : RegOk cx L i (retC cx nx q, e, L) := by
  unfold retC
  split
  · exact rg_15 _ e (by rfl) (by rfl) L (fun _ => rfl)
  · exact rg_same _ e (by rfl) (by rfl) L (fun _ => rfl)
end
theorem actS_reg (cx : Ctx) (L : List Rg) (i : Ins) (nx : Int) : RegOk cx L i (actS cx L i nx) := by
  obtain ⟨R, hR⟩ : ∃ R, actS cx L i nx = R := ⟨_, rfl⟩
  rw [hR]
  unfold actS at hR
  by_cases h0 : i.op = 0
  · rw [if_pos h0] at hR; rw [← hR]; exact rg_same _ _ (by rfl) (by rfl) _ (fun _ => rfl)
  rw [if_neg h0] at hR
  by_cases h1 : i.op = 1
  · rw [if_pos h1] at hR; rw [← hR]; exact rg_put _ _ _ (by rfl) (by rfl) (by omega)
  rw [if_neg h1] at hR
  by_cases h2 : i.op = 2
  · rw [if_pos h2] at hR; rw [← hR]; exact rg_put _ _ _ (by rfl) (by rfl) (by omega)
  rw [if_neg h2] at hR
  by_cases h9 : i.op = 9
  · rw [if_pos h9] at hR; rw [← hR]; exact rg_ld _ _ _ (by rfl) (by rfl) (by omega)
  rw [if_neg h9] at hR
  by_cases h10 : i.op = 10
  · rw [if_pos h10] at hR; rw [← hR]; exact rg_same _ _ (by rfl) (by rfl) _ (fun h => absurd (.inl h10) h)
  rw [if_neg h10] at hR
  by_cases h11 : i.op = 11
  · rw [if_pos h11] at hR; rw [← hR]; exact rg_ld _ _ _ (by rfl) (by rfl) (by omega)
  rw [if_neg h11] at hR
  by_cases h12 : i.op = 12
  · rw [if_pos h12] at hR; rw [← hR]; exact rg_put _ _ _ (by rfl) (by rfl) (by omega)
  rw [if_neg h12] at hR
  by_cases h13 : i.op = 13
  · rw [if_pos h13] at hR; rw [← hR]; exact rg_same _ _ (by rfl) (by rfl) _ (fun _ => rfl)
  rw [if_neg h13] at hR
  by_cases h14 : i.op = 14
  · rw [if_pos h14] at hR; rw [← hR]; exact rg_same _ _ (by rfl) (by rfl) _ (fun _ => rfl)
  rw [if_neg h14] at hR
  by_cases h15 : i.op = 15
  · rw [if_pos h15] at hR; rw [← hR]; exact rg_cal _ _ _ _ (fun h => absurd (.inr (.inl h15)) h)
  rw [if_neg h15] at hR
  by_cases h16 : i.op = 16
  · rw [if_pos h16] at hR; rw [← hR]; exact rg_cal _ _ _ _ (fun h => absurd (.inr (.inr h16)) h)
  rw [if_neg h16] at hR
  by_cases h17 : i.op = 17
  · rw [if_pos h17] at hR; rw [← hR]; exact rg_same _ _ (by rfl) (by rfl) _ (fun _ => rfl)
  rw [if_neg h17] at hR
  by_cases h18 : i.op = 18
  · rw [if_pos h18] at hR; rw [← hR]; exact rg_ret _ _ _ (by omega)
  rw [if_neg h18] at hR
  by_cases h19 : i.op = 19
  · rw [if_pos h19] at hR; rw [← hR]; exact rg_same _ _ (by rfl) (by rfl) _ (fun _ => rfl)
  rw [if_neg h19] at hR
  by_cases h20 : i.op = 20
  · rw [if_pos h20] at hR; rw [← hR]; exact rg_put _ _ _ (by rfl) (by rfl) (by omega)
  rw [if_neg h20] at hR
  by_cases h21 : i.op = 21
  · rw [if_pos h21] at hR; rw [← hR]; exact rg_same _ _ (by rfl) (by rfl) _ (fun _ => rfl)
  rw [if_neg h21] at hR
  by_cases h22 : i.op = 22
  · rw [if_pos h22] at hR; rw [← hR]; exact rg_same _ _ (by rfl) (by rfl) _ (fun _ => rfl)
  rw [if_neg h22] at hR
  have hno : ¬ (i.op = 10 ∨ i.op = 15 ∨ i.op = 16) := by omega
  by_cases hz : (rkS i.op (rgI cx i.b) (rgI cx i.c)).2 = 0
  · rw [if_pos hz] at hR; rw [← hR]; exact rg_put _ _ _ (by rfl) (by rfl) hno
  rw [if_neg hz] at hR; rw [← hR]; exact rg_same _ _ (by rfl) (by rfl) _ (fun _ => rfl)

/-! ### Read back from its bytes -/
theorem encB_nat {x : Int} (h0 : 0 ≤ x) (h1 : x < 256) : ((encB x).toNat : Int) = x := by
  have := encB_byC h0 h1
  unfold byC at this
  simpa using this
theorem ins_back {i : Ins} (h : mayS i = true) : insK (encS i) 0 = i := by
  obtain ⟨⟨o1, o2⟩, ⟨a1, a2⟩, ⟨b1, b2⟩, ⟨c1, c2⟩, n1, n2⟩ := may_rng h
  obtain ⟨u1, u2⟩ := unN_rng n1 n2
  have e0 : byI (encS i) 0 = i.op := encB_nat (by omega) (by omega)
  have e1 : byI (encS i) 1 = i.a := encB_nat (by omega) (by omega)
  have e2 : byI (encS i) 2 = i.b := encB_nat (by omega) (by omega)
  have e3 : byI (encS i) 3 = i.c := encB_nat (by omega) (by omega)
  have e4 : byI (encS i) 4 = unN i.n % 256 := encB_nat (by omega) (by omega)
  have e5 : byI (encS i) 5 = unN i.n / 256 % 256 := encB_nat (by omega) (by omega)
  have e6 : byI (encS i) 6 = unN i.n / 65536 % 256 := encB_nat (by omega) (by omega)
  have e7 : byI (encS i) 7 = unN i.n / 16777216 := encB_nat (by omega) (by omega)
  unfold insK
  simp only [Nat.mul_zero, Nat.zero_add, e0, e1, e2, e3, e4, e5, e6, e7]
  have : i32S (unN i.n % 256 + 256 * (unN i.n / 256 % 256) + 65536 * (unN i.n / 65536 % 256) + 16777216 * (unN i.n / 16777216)) = i.n := by
    have e : unN i.n % 256 + 256 * (unN i.n / 256 % 256) + 65536 * (unN i.n / 65536 % 256) + 16777216 * (unN i.n / 16777216) = unN i.n := by omega
    rw [e]
    unfold i32S unN
    split <;> split <;> omega
  rw [this]
theorem get_fst {L : List Rg} {x n p q : Int} (h1 : (getS L x n p).2 = 0) (h2 : (getS L x n q).2 = 0) : getS L x n p = getS L x n q := by
  rw [get_err] at h1 h2
  unfold getS
  by_cases hn : n < 1 ∨ 1048576 < n
  · rw [if_pos hn, if_pos hn]
  · rw [if_neg hn] at h1 h2
    rw [if_neg hn, if_neg hn, if_neg (by simp [h1]), if_neg (by simp [h2])]
theorem map_part {L : List Rg} (hL : Ok L) {x n p : Int} (hm : (mapAtS L x n p).2 = 0) : ∃ r, (mapAtS L x n p).1[partK (mapAtS L x n p).1 x]? = some r ∧ r.at_ = x ∧ r.sz = up n ∧ r.pm = p := by
  have hok := hL.mapAt x n p
  unfold mapAtS at hm hok ⊢
  by_cases h1 : right n p ≠ 0
  · rw [if_pos h1] at hm; simp at hm
  rw [if_neg h1] at hm hok ⊢
  by_cases h2 : x < 4096 ∨ x % 64 ≠ 0 ∨ 4294967296 - up n < x
  · rw [if_pos h2] at hm; simp at hm
  rw [if_neg h2] at hm hok ⊢
  by_cases h3 : meets L x (up n) = true
  · rw [if_pos h3] at hm; simp at hm
  rw [if_neg h3] at hm hok ⊢
  simp only at hok ⊢
  have hr : right n p = 0 := by simpa using h1
  obtain ⟨z1, z2, z3, z4⟩ := right_eq hr
  obtain ⟨u1, u2, u3, u4⟩ := up_ge n z1
  have hget := ins_get (insP_le x L) (⟨x, up n, p, zeros (up n)⟩ : Rg)
  have hin : inside x (⟨x, up n, p, zeros (up n)⟩ : Rg) = true := inside_of (Int.le_refl _) (by simp only; omega)
  rw [partK_eq hok hget hin]
  exact ⟨_, hget, rfl, rfl, rfl⟩
/-- What was poked into a region of its own is fetched. -/
theorem poke_fetch {L : List Rg} (hL : Ok L) {x : Int} (hm : (mapAtS L x 64 7).2 = 0) {b : List UInt8} (hb : b.length = 8) :
    (setS (mapAtS L x 64 7).1 x b 0).2 = 0 ∧ getS (setS (mapAtS L x 64 7).1 x b 0).1 x 8 4 = (b, 0) := by
  obtain ⟨r, h1, h2, h3, h4⟩ := map_part hL hm
  have hok := hL.mapAt x 64 7
  generalize (mapAtS L x 64 7).1 = M at *
  have hu : up 64 = 64 := by decide
  have hp : ∀ q, has 7 q = true → partS M x 8 q = 0 := fun q hq => by
    rw [partS_some h1, h2, h3, h4, hu, hq]
    rw [if_neg (by omega), if_neg (by simp)]
  have hs : (setS M x b 0).2 = 0 := by
    unfold setS
    rw [hb, if_neg (by omega), hp 0 (by decide)]
    rfl
  refine ⟨hs, ?_⟩
  have g0 := set_get hok hs
  rw [hb] at g0
  have e0 : (getS (setS M x b 0).1 x 8 0).2 = 0 := by
    have := congrArg Prod.snd g0
    exact this
  have e4 : (getS (setS M x b 0).1 x 8 4).2 = 0 := by
    rw [get_err_set, get_err, if_neg (by omega)]
    exact hp 4 (by decide)
  rw [get_fst e4 e0]
  exact g0

/-- A step at such a place. -/
theorem step_at {cx : Ctx} {L : List Rg} {i : Ins} (hp : cx.pc ≠ 0) (hg : getS L cx.pc 8 4 = (encS i, 0)) (hi : mayS i = true) : RegOk cx L i (stepS cx L) ∧ (stepS cx L).2.1.k ≠ 1 ∧ (stepS cx L).2.1.k ≠ 6 := by
  have hk := (stepS_evt cx L).kinds
  refine ⟨?_, ?_⟩
  · unfold stepS
    rw [if_neg hp, hg, if_neg (by simp), ins_back hi, if_neg (by simp [hi])]
    have h := actS_reg cx L i (wrap64 (cx.pc + 8))
    have he := actS_evt cx L i (wrap64 (cx.pc + 8))
    by_cases h5 : (actS cx L i (wrap64 (cx.pc + 8))).2.1.k = 5
    · rw [if_pos h5]
      exact rg_same _ _ (by rfl) (by rfl) _ (fun hs => h.mem hs)
    · rw [if_neg h5]; exact h
  · rcases hk with ⟨h, _⟩ | h
    · exact absurd h hp
    · omega

/-- How many of the first k registers differ. -/
def cntS (C D : Ctx) : Nat → Nat
  | 0 => 0
  | k + 1 => cntS C D k + (if D.r k = C.r k then 0 else 1)
theorem cnt_none {C D : Ctx} (h : ∀ k, k < 15 → D.r k = C.r k) : ∀ k, k ≤ 15 → cntS C D k = 0
  | 0, _ => rfl
  | k + 1, hk => by unfold cntS; rw [if_pos (h k (by omega)), cnt_none h k (by omega)]
theorem cnt_one {C D : Ctx} {a : Nat} (h : ∀ k, k < 15 → k ≠ a → D.r k = C.r k) : ∀ k, k ≤ 15 → cntS C D k ≤ (if k ≤ a then 0 else 1)
  | 0, _ => by unfold cntS; omega
  | k + 1, hk => by
    have ih := cnt_one h k (by omega)
    unfold cntS
    by_cases hka : k = a
    · rw [if_pos (by omega)] at ih
      rw [if_neg (by omega : ¬ k + 1 ≤ a)]
      split <;> omega
    · rw [if_pos (h k (by omega) hka)]
      split at ih <;> split <;> omega
theorem cnt_most {C D : Ctx} {a : Nat} (h : ∀ k, k < 15 → k ≠ a → D.r k = C.r k) : cntS C D 15 ≤ 1 := by
  have hq := cnt_one h 15 (Nat.le_refl _)
  generalize cntS C D 15 = n at *
  by_cases h15 : 15 ≤ a
  · rw [if_pos h15] at hq; omega
  · rw [if_neg h15] at hq; omega
theorem cnt_le (C D : Ctx) : ∀ k, cntS C D k ≤ k
  | 0 => Nat.le_refl _
  | k + 1 => by have := cnt_le C D k; unfold cntS; split <;> omega
end Go.Proofs.Ytkpaeogjefjbfaa
