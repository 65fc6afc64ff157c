/-
  Layer 6: a step of the program, whole; what it keeps.
  Conditions: none. (My own text.)
-/
import Derived.Test.YtkpaeogjefjbfaaCpk
import Derived.Test.YtkpaeogjefjbfaaCrn
import Derived.Test.YtkpaeogjefjbfaaCph
import Derived.Test.YtkpaeogjefjbfaaCde
namespace Go.Proofs.Ytkpaeogjefjbfaa
open Go.RowKit Spm
set_option linter.unusedVariables false
set_option linter.unusedSimpArgs false

section
variable {B : Nat} {w wr w' : World} {s : Nat} {cx : Ctx} {L : List Rg} {Y : Res}
theorem step_any [hY : Fr Y] (h : Has B w wr (Star (Sp s L) Y)) (hc : CtxOk cx) :
    Calls Try.prog 17 #[cx.val, .pointer (some ⟨s, 0, none⟩)] wr fun x w' => x = .returned (.tuple #[(stepS cx L).1.val, (stepS cx L).2.1.val]) ∧ Has B w w' (Star (Sp s (stepS cx L).2.2) Y) :=
  step_of h hc (fun g w1 Y2 hY2 h2 i hi => act_any h2 (hc.r 15).2 i hi (wrap64 (cx.pc + 8))) (fun A c b hb h8 hcm w1 hs => by
    have := decode_any A c b (by omega) (by omega) hcm w1 hs
    rwa [hb] at this)
theorem wrap64_I64 (n : Int) : I64 (wrap64 n) := by unfold I64 wrap64; omega
theorem wordAt_I64 (L : List Rg) (x p : Int) : I64 (wordAt L x p).1 := by unfold wordAt wordS; exact wrap64_I64 _
theorem CtxOk.upd (hc : CtxOk cx) {pc : Int} (hp : I64 pc) (a : Nat) {v : Int} (hv : I64 v) : CtxOk { cx with pc := pc, r := upd cx.r a v } :=
  ⟨hp, hc.tp, fun k => by unfold Go.Proofs.Ytkpaeogjefjbfaa.upd; simp only; split; exact hv; exact hc.r k⟩
theorem CtxOk.pcs (hc : CtxOk cx) {pc : Int} (hp : I64 pc) : CtxOk { cx with pc := pc } := ⟨hp, hc.tp, hc.r⟩
theorem rkS_I64 (op x y : Int) : I64 (rkS op x y).1 := by
  unfold rkS
  split; exact wrap64_I64 _
  split; exact wrap64_I64 _
  split; exact wrap64_I64 _
  split; split <;> (constructor <;> omega)
  split; split <;> (constructor <;> omega)
  split; constructor <;> omega
  exact wrap64_I64 _
theorem ldC_ok (hc : CtxOk cx) (a : Nat) (q : Int × Int) (hq : I64 q.1) : CtxOk (ldC cx a q) := by
  unfold ldC; split; exact hc.upd hc.pc a hq; exact hc
theorem actS_ok (hc : CtxOk cx) (hL : Ok L) {i : Ins} (hi : mayS i = true) {nx : Int} (hn : I64 nx) : CtxOk (actS cx L i nx).1 ∧ Ok (actS cx L i nx).2.2 := by
  obtain ⟨_, _, _, _, n1, n2⟩ := may_rng hi
  have hin : I64 i.n := ⟨by omega, by omega⟩
  have hp := hc.pcs hn
  have hr : ∀ x, I64 (rgI cx x) := fun x => hc.r _
  have hput : ∀ (a v : Int), I64 v → CtxOk (putI cx nx a v) := fun a v hv => hc.upd hn _ hv
  have hcal : ∀ (t q : Int), I64 t → CtxOk (calC cx nx t q) := fun t q ht => by
    unfold calC; split; exact hc.upd ht _ (wrap64_I64 _); exact hp
  have hs : ∀ x b p, Ok (setS L x b p).1 := fun x b p => hL.set x b p
  have hret : CtxOk (retC cx nx (wordAt L (cx.r 15) 1)) := by
    unfold retC; split; exact hc.upd (wordAt_I64 _ _ _) _ (wrap64_I64 _); exact hp
  obtain ⟨R, hR⟩ : ∃ R, actS cx L i nx = R := ⟨_, rfl⟩
  rw [hR]
  unfold actS at hR
  by_cases h0 : i.op = 0
  · rw [if_pos h0] at hR; rw [← hR]; exact ⟨hp, hL⟩
  rw [if_neg h0] at hR
  clear h0
  by_cases h1 : i.op = 1
  · rw [if_pos h1] at hR; rw [← hR]; exact ⟨hput _ _ hin, hL⟩
  rw [if_neg h1] at hR
  clear h1
  by_cases h2 : i.op = 2
  · rw [if_pos h2] at hR; rw [← hR]; exact ⟨hput _ _ (hr _), hL⟩
  rw [if_neg h2] at hR
  clear h2
  by_cases h9 : i.op = 9
  · rw [if_pos h9] at hR; rw [← hR]; exact ⟨ldC_ok hp _ _ (wordAt_I64 _ _ _), hL⟩
  rw [if_neg h9] at hR
  clear h9
  by_cases h10 : i.op = 10
  · rw [if_pos h10] at hR; rw [← hR]; exact ⟨hp, hs _ _ _⟩
  rw [if_neg h10] at hR
  clear h10
  by_cases h11 : i.op = 11
  · rw [if_pos h11] at hR; rw [← hR]; exact ⟨ldC_ok hp _ _ (wordAt_I64 _ _ _), hL⟩
  rw [if_neg h11] at hR
  clear h11
  by_cases h12 : i.op = 12
  · rw [if_pos h12] at hR; rw [← hR]; exact ⟨hput _ _ (wrap64_I64 _), hL⟩
  rw [if_neg h12] at hR
  clear h12
  by_cases h13 : i.op = 13
  · rw [if_pos h13] at hR; rw [← hR]; exact ⟨hc.pcs (wrap64_I64 _), hL⟩
  rw [if_neg h13] at hR
  clear h13
  by_cases h14 : i.op = 14
  · rw [if_pos h14] at hR; rw [← hR]; exact ⟨hc.pcs (by split; exact wrap64_I64 _; exact hn), hL⟩
  rw [if_neg h14] at hR
  clear h14
  by_cases h15 : i.op = 15
  · rw [if_pos h15] at hR; rw [← hR]; exact ⟨hcal _ _ (wrap64_I64 _), hs _ _ _⟩
  rw [if_neg h15] at hR
  clear h15
  by_cases h16 : i.op = 16
  · rw [if_pos h16] at hR; rw [← hR]; exact ⟨hcal _ _ (hr _), hs _ _ _⟩
  rw [if_neg h16] at hR
  clear h16
  by_cases h17 : i.op = 17
  · rw [if_pos h17] at hR; rw [← hR]; exact ⟨hc.pcs (hr _), hL⟩
  rw [if_neg h17] at hR
  clear h17
  by_cases h18 : i.op = 18
  · rw [if_pos h18] at hR; rw [← hR]; exact ⟨hret, hL⟩
  rw [if_neg h18] at hR
  clear h18
  by_cases h19 : i.op = 19
  · rw [if_pos h19] at hR; rw [← hR]; exact ⟨hp, hL⟩
  rw [if_neg h19] at hR
  clear h19
  by_cases h20 : i.op = 20
  · rw [if_pos h20] at hR; rw [← hR]; exact ⟨hput _ _ hc.tp, hL⟩
  rw [if_neg h20] at hR
  clear h20
  by_cases h21 : i.op = 21
  · rw [if_pos h21] at hR; rw [← hR]; exact ⟨hp, hL⟩
  rw [if_neg h21] at hR
  clear h21
  by_cases h22 : i.op = 22
  · rw [if_pos h22] at hR; rw [← hR]; exact ⟨hp, hL⟩
  rw [if_neg h22] at hR
  clear h22
  by_cases hz : (rkS i.op (rgI cx i.b) (rgI cx i.c)).2 = 0
  · rw [if_pos hz] at hR; rw [← hR]; exact ⟨hput _ _ (rkS_I64 _ _ _), hL⟩
  rw [if_neg hz] at hR; rw [← hR]; exact ⟨hp, hL⟩
theorem stepS_ok (hc : CtxOk cx) (hL : Ok L) : CtxOk (stepS cx L).1 ∧ Ok (stepS cx L).2.2 := by
  obtain ⟨R, hR⟩ : ∃ R, stepS cx L = R := ⟨_, rfl⟩
  rw [hR]
  unfold stepS at hR
  by_cases h1 : cx.pc = 0
  · rw [if_pos h1] at hR; rw [← hR]; exact ⟨hc, hL⟩
  rw [if_neg h1] at hR
  by_cases h2 : (getS L cx.pc 8 4).2 ≠ 0
  · rw [if_pos h2] at hR; rw [← hR]; exact ⟨hc, hL⟩
  rw [if_neg h2] at hR
  by_cases h3 : mayS (insK (getS L cx.pc 8 4).1 0) = false
  · rw [if_pos h3] at hR; rw [← hR]; exact ⟨hc, hL⟩
  rw [if_neg h3] at hR
  have hm : mayS (insK (getS L cx.pc 8 4).1 0) = true := by simpa using h3
  have h := actS_ok hc hL hm (wrap64_I64 (cx.pc + 8))
  by_cases h4 : (actS cx L (insK (getS L cx.pc 8 4).1 0) (wrap64 (cx.pc + 8))).2.1.k = 5
  · rw [if_pos h4] at hR; rw [← hR]; exact ⟨hc, h.2⟩
  · rw [if_neg h4] at hR; rw [← hR]; exact h
theorem run_any [hY : Fr Y] (h : Has B w wr (Star (Sp s L) Y)) (hc : CtxOk cx) (most : Int) (hm : most ≤ 9223372036854775807) :
    Calls Try.prog 15 #[cx.val, .pointer (some ⟨s, 0, none⟩), .int .i64 most] wr (RunE B w s (runS cx L most) Y) :=
  run_of h hc most hm (fun cx L h1 h2 => (stepS_ok h1 h2).1) (fun w1 Y2 hY2 cx L h1 h2 => step_any h1 h2)
end
end Go.Proofs.Ytkpaeogjefjbfaa
