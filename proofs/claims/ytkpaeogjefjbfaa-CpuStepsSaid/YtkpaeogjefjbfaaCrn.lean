/-
  Layer 6: a run of the program.
  Conditions: none. (My own text.)
-/
import Derived.Test.YtkpaeogjefjbfaaCpl
import Derived.StillTailTactics
import Derived.Deep.RegionHeld3
namespace Go.Proofs.Ytkpaeogjefjbfaa
open Go.RowKit Spm
set_option linter.unusedVariables false
set_option linter.unusedSimpArgs false

theorem results_cell3_row {P : Program} {fn : Func} {p u q : Tmp} {ty uy : TypeId} (h : fn.results = #[.cell p ty, .cell u uy, .tmp q]) (tmps : Array Value) (w : World) (g k : Nat) (t v : TypeId) (cs ds : Array Value) (d e : TypeDesc)
    (hp : tmps.getD p undef = .pointer (some ⟨g, 0, none⟩)) (hg : w.heap[g]? = some (.cells cs t (0, 0))) (hu : P.underlying ty = some d) (hd : (match d with | .struct _ | .array _ _ => true | _ => false) = true) (hi : (P.info? ty).map (·.size) = some cs.size)
    (hq : tmps.getD u undef = .pointer (some ⟨k, 0, none⟩)) (hk : w.heap[k]? = some (.cells ds v (0, 0))) (hv : P.underlying uy = some e) (he : (match e with | .struct _ | .array _ _ => true | _ => false) = true) (hj : (P.info? uy).map (·.size) = some ds.size) (x : Value) (hx : tmps.getD q undef = x) :
    (results fn tmps).run P w = .ok (.tuple #[.agg cs, .agg ds, x]) w := by
  have hp' : tmps[p]?.getD undef = .pointer (some ⟨g, 0, none⟩) := by simpa using hp
  have hq' : tmps[u]?.getD undef = .pointer (some ⟨k, 0, none⟩) := by simpa using hq
  have hx' : tmps[q]?.getD undef = x := by simpa using hx
  simp [results, h, hp', hq', hx', asAddr, run_loadVar_row w g t ty cs (0, 0) d hg hu hd hi, run_loadVar_row w k v uy ds (0, 0) e hk hv he hj]
def RunE (B : Nat) (w : World) (s : Nat) (R : Ctx × Evt × Int × List Rg) (Y : Res) (x : Ending) (w' : World) : Prop := x = .returned (.tuple #[R.1.val, R.2.1.val, .int .i64 R.2.2.1]) ∧ Has B w w' (Star (Sp s R.2.2.2) Y)
structure RunI (B : Nat) (w : World) (s b0 b1 b2 : Nat) (R : Ctx × Evt × Int × List Rg) (Y : Res) (M : Nat) (i : Value) (wr : World) (k : Nat) (cx : Ctx) (L : List Rg) : Prop where
  le : k ≤ M
  i : i = .int .i64 k
  own : Has B w wr (Star (Cel b2 40 #[.int .i64 0, .int .i64 0, .int .i64 0, .int .i64 0, .int .i64 0]) (Star (Cel b1 37 #[.int .i64 0, .int .i64 0, .int .i64 0, .int .i64 0, .int .i64 0, .int .i64 0, .int .i64 0, .int .i64 0, .int .i64 0, .int .i64 0, .int .i64 0, .int .i64 0, .int .i64 0, .int .i64 0, .int .i64 0, .int .i64 0, .int .i64 0, .int .i64 0]) (Star (Cel b0 37 #[.int .i64 cx.pc, .int .i64 cx.tp, .int .i64 (cx.r 0), .int .i64 (cx.r 1), .int .i64 (cx.r 2), .int .i64 (cx.r 3), .int .i64 (cx.r 4), .int .i64 (cx.r 5), .int .i64 (cx.r 6), .int .i64 (cx.r 7), .int .i64 (cx.r 8), .int .i64 (cx.r 9), .int .i64 (cx.r 10), .int .i64 (cx.r 11), .int .i64 (cx.r 12), .int .i64 (cx.r 13), .int .i64 (cx.r 14), .int .i64 (cx.r 15)]) (Star (Sp s L) Y))))
  ok : CtxOk cx
  run : runG cx L k (M - k) = R

section
variable {B : Nat} {w wr w' : World} {s : Nat} {cx : Ctx} {L : List Rg} {Y : Res}
set_option maxRecDepth 100000 in
set_option maxHeartbeats 8000000 in
theorem run_of [hY : Fr Y] (h : Has B w wr (Star (Sp s L) Y)) (hc : CtxOk cx) (most : Int) (hm : most ≤ 9223372036854775807)
    (hok : ∀ (cx : Ctx) (L : List Rg), CtxOk cx → Ok L → CtxOk (stepS cx L).1)
    (hstep : ∀ (w1 : World) (Y2 : Res) (hY2 : Fr Y2) (cx : Ctx) (L : List Rg), Has B w w1 (Star (Sp s L) Y2) → CtxOk cx → Calls Try.prog 17 #[cx.val, .pointer (some ⟨s, 0, none⟩)] w1 fun x w' => x = .returned (.tuple #[(stepS cx L).1.val, (stepS cx L).2.1.val]) ∧ Has B w w' (Star (Sp s (stepS cx L).2.2) Y2)) :
    Calls Try.prog 15 #[cx.val, .pointer (some ⟨s, 0, none⟩), .int .i64 most] wr (RunE B w s (runS cx L most) Y) := by
  obtain ⟨R, hR⟩ : ∃ R, runS cx L most = R := ⟨_, rfl⟩
  obtain ⟨pc, tp, r⟩ := cx
  rw [hR]
  have HR := Lib.hid hR
  have HC := Lib.hid hc
  have HSTEP := Lib.hid hstep
  have HKEEP := Lib.hid hok
  have M0 := Lib.hid (((h.newcel 37 #[.int .i64 pc, .int .i64 tp, .int .i64 (r 0), .int .i64 (r 1), .int .i64 (r 2), .int .i64 (r 3), .int .i64 (r 4), .int .i64 (r 5), .int .i64 (r 6), .int .i64 (r 7), .int .i64 (r 8), .int .i64 (r 9), .int .i64 (r 10), .int .i64 (r 11), .int .i64 (r 12), .int .i64 (r 13), .int .i64 (r 14), .int .i64 (r 15)]).newcel 37 #[.int .i64 0, .int .i64 0, .int .i64 0, .int .i64 0, .int .i64 0, .int .i64 0, .int .i64 0, .int .i64 0, .int .i64 0, .int .i64 0, .int .i64 0, .int .i64 0, .int .i64 0, .int .i64 0, .int .i64 0, .int .i64 0, .int .i64 0, .int .i64 0]).newcel 40 #[.int .i64 0, .int .i64 0, .int .i64 0, .int .i64 0, .int .i64 0])
  clear hR hstep hok h hc
  unfold Ctx.val
  simp only
  obtain ⟨M, hM⟩ : ∃ M : Nat, most.toNat = M := ⟨_, rfl⟩
  have HM := Lib.hid hM
  have hM1 : M ≤ 9223372036854775807 := by omega
  have hmx : max 0 most = (M : Int) := by omega
  clear hM
  go_enter Try.func15, Try.ntmps15
  go_upto_region 1 with (fail)
  have e1 : (wr.alloc (.cells #[.int .i64 pc, .int .i64 tp, .int .i64 (r 0), .int .i64 (r 1), .int .i64 (r 2), .int .i64 (r 3), .int .i64 (r 4), .int .i64 (r 5), .int .i64 (r 6), .int .i64 (r 7), .int .i64 (r 8), .int .i64 (r 9), .int .i64 (r 10), .int .i64 (r 11), .int .i64 (r 12), .int .i64 (r 13), .int .i64 (r 14), .int .i64 (r 15)] 37)).heap.size = wr.heap.size + 1 := by simp
  have e2 : ((wr.alloc (.cells #[.int .i64 pc, .int .i64 tp, .int .i64 (r 0), .int .i64 (r 1), .int .i64 (r 2), .int .i64 (r 3), .int .i64 (r 4), .int .i64 (r 5), .int .i64 (r 6), .int .i64 (r 7), .int .i64 (r 8), .int .i64 (r 9), .int .i64 (r 10), .int .i64 (r 11), .int .i64 (r 12), .int .i64 (r 13), .int .i64 (r 14), .int .i64 (r 15)] 37)).alloc (.cells #[.int .i64 0, .int .i64 0, .int .i64 0, .int .i64 0, .int .i64 0, .int .i64 0, .int .i64 0, .int .i64 0, .int .i64 0, .int .i64 0, .int .i64 0, .int .i64 0, .int .i64 0, .int .i64 0, .int .i64 0, .int .i64 0, .int .i64 0, .int .i64 0] 37)).heap.size = wr.heap.size + 1 + 1 := by simp
  rw [e2, e1] at M0
  obtain ⟨W, hW⟩ : ∃ W, (((wr.alloc (.cells #[.int .i64 pc, .int .i64 tp, .int .i64 (r 0), .int .i64 (r 1), .int .i64 (r 2), .int .i64 (r 3), .int .i64 (r 4), .int .i64 (r 5), .int .i64 (r 6), .int .i64 (r 7), .int .i64 (r 8), .int .i64 (r 9), .int .i64 (r 10), .int .i64 (r 11), .int .i64 (r 12), .int .i64 (r 13), .int .i64 (r 14), .int .i64 (r 15)] 37)).alloc (.cells #[.int .i64 0, .int .i64 0, .int .i64 0, .int .i64 0, .int .i64 0, .int .i64 0, .int .i64 0, .int .i64 0, .int .i64 0, .int .i64 0, .int .i64 0, .int .i64 0, .int .i64 0, .int .i64 0, .int .i64 0, .int .i64 0, .int .i64 0, .int .i64 0] 37)).alloc (.cells #[.int .i64 0, .int .i64 0, .int .i64 0, .int .i64 0, .int .i64 0] 40)) = W := ⟨_, rfl⟩
  rw [hW] at M0 ⊢
  clear e1 e2 hW
  generalize wr.heap.size + 1 + 1 = b2 at M0 ⊢
  generalize wr.heap.size + 1 = b1 at M0 ⊢
  generalize wr.heap.size = b0 at M0 ⊢
  go_wp2_with fail
  go_loopw [14] (fun i wr => ∃ k cx L, Hid (RunI B w s b0 b1 b2 R Y M i wr k cx L)) (fun i _ => M - (intOf i).toNat)
  case atStart => exact ⟨0, ⟨pc, tp, r⟩, L, Lib.hid ⟨Nat.zero_le _, rfl, M0.out, HC.out, by rw [← HR.out]; unfold runS; rw [HM.out]; rfl⟩⟩
  case round =>
    obtain ⟨k, cx, L, hI⟩ := hrel
    obtain ⟨hk, rfl, hown, hok, hrun⟩ := hI.out
    obtain ⟨pc, tp, r⟩ := cx
    have M1 := Lib.hid hown
    have HRUN := Lib.hid hrun
    have HOK := Lib.hid hok
    clear hI hown hok hrun
    try simp only at M1
    have hpc : wr.cell? ⟨b0, 0, none⟩ = some (.int .i64 pc) := by rw [M1.out.r3.cel.cell]; rfl
    by_cases hkM : k < M
    · have C1 := Lib.hid (HSTEP.out wr _ inferInstance ⟨pc, tp, r⟩ L M1.out.r4 HOK.out)
      have HOK2 := Lib.hid (HKEEP.out ⟨pc, tp, r⟩ L HOK.out M1.out.r4.ok)
      have HRUN2 := Lib.hid (HRUN.out)
      rw [show M - k = (M - k - 1) + 1 by omega] at HRUN2
      unfold runG at HRUN2
      clear HRUN
      unfold Ctx.val at C1
      try simp only at C1
      generalize stepS ⟨pc, tp, r⟩ L = RS at C1 HOK2 HRUN2
      obtain ⟨⟨pc2, tp2, r2⟩, ⟨k2, n2, a2, f2, g2⟩, L2⟩ := RS
      unfold Evt.val at C1
      try simp only at C1
      try simp only at HOK2 HRUN2
      go_upto_region 4 with (fail)
      go_wp2_with (first | (refine wpList_load_row rfl 37 _ rfl b0 rfl 37 #[.int .i64 pc, .int .i64 tp, .int .i64 (r 0), .int .i64 (r 1), .int .i64 (r 2), .int .i64 (r 3), .int .i64 (r 4), .int .i64 (r 5), .int .i64 (r 6), .int .i64 (r 7), .int .i64 (r 8), .int .i64 (r 9), .int .i64 (r 10), .int .i64 (r 11), .int .i64 (r 12), .int .i64 (r 13), .int .i64 (r 14), .int .i64 (r 15)] (0, 0) _ M1.out.r3.cel Try.underlying37 rfl (by kernel_rfl) ?_))
      refine (C1.out).mono ?_
      rintro e w2 ⟨rfl, m2⟩
      have M2 := Lib.hid (((m2.r4.r4.r4).newcel 37 #[.int .i64 0, .int .i64 0, .int .i64 0, .int .i64 0, .int .i64 0, .int .i64 0, .int .i64 0, .int .i64 0, .int .i64 0, .int .i64 0, .int .i64 0, .int .i64 0, .int .i64 0, .int .i64 0, .int .i64 0, .int .i64 0, .int .i64 0, .int .i64 0]).newcel 40 #[.int .i64 0, .int .i64 0, .int .i64 0, .int .i64 0, .int .i64 0]); clear m2 C1
      have e1 : (w2.alloc (.cells #[.int .i64 0, .int .i64 0, .int .i64 0, .int .i64 0, .int .i64 0, .int .i64 0, .int .i64 0, .int .i64 0, .int .i64 0, .int .i64 0, .int .i64 0, .int .i64 0, .int .i64 0, .int .i64 0, .int .i64 0, .int .i64 0, .int .i64 0, .int .i64 0] 37)).heap.size = w2.heap.size + 1 := by simp
      rw [e1] at M2
      have M3 := Lib.hid (M2.out.swap.setrow #[.int .i64 pc2, .int .i64 tp2, .int .i64 (r2 0), .int .i64 (r2 1), .int .i64 (r2 2), .int .i64 (r2 3), .int .i64 (r2 4), .int .i64 (r2 5), .int .i64 (r2 6), .int .i64 (r2 7), .int .i64 (r2 8), .int .i64 (r2 9), .int .i64 (r2 10), .int .i64 (r2 11), .int .i64 (r2 12), .int .i64 (r2 13), .int .i64 (r2 14), .int .i64 (r2 15)]).swap
      have M4 := Lib.hid (M3.out.setrow #[.int .i64 k2, .int .i64 n2, .int .i64 a2, .int .i64 f2, .int .i64 g2])
      go_upto_region 5 with (first | (refine wpList_store_row rfl 37 _ _ rfl w2.heap.size #[.int .i64 pc2, .int .i64 tp2, .int .i64 (r2 0), .int .i64 (r2 1), .int .i64 (r2 2), .int .i64 (r2 3), .int .i64 (r2 4), .int .i64 (r2 5), .int .i64 (r2 6), .int .i64 (r2 7), .int .i64 (r2 8), .int .i64 (r2 9), .int .i64 (r2 10), .int .i64 (r2 11), .int .i64 (r2 12), .int .i64 (r2 13), .int .i64 (r2 14), .int .i64 (r2 15)] rfl rfl 37 #[.int .i64 0, .int .i64 0, .int .i64 0, .int .i64 0, .int .i64 0, .int .i64 0, .int .i64 0, .int .i64 0, .int .i64 0, .int .i64 0, .int .i64 0, .int .i64 0, .int .i64 0, .int .i64 0, .int .i64 0, .int .i64 0, .int .i64 0, .int .i64 0] M2.out.swap.cel (by kernel_rfl) rfl (by kernel_rfl) ?_) | (refine wpList_store_row rfl 40 _ _ rfl (w2.heap.size + 1) #[.int .i64 k2, .int .i64 n2, .int .i64 a2, .int .i64 f2, .int .i64 g2] rfl rfl 40 #[.int .i64 0, .int .i64 0, .int .i64 0, .int .i64 0, .int .i64 0] M3.out.cel (by kernel_rfl) rfl (by kernel_rfl) ?_))
      obtain ⟨W, hW⟩ : ∃ W, (((w2.alloc (.cells #[.int .i64 0, .int .i64 0, .int .i64 0, .int .i64 0, .int .i64 0, .int .i64 0, .int .i64 0, .int .i64 0, .int .i64 0, .int .i64 0, .int .i64 0, .int .i64 0, .int .i64 0, .int .i64 0, .int .i64 0, .int .i64 0, .int .i64 0, .int .i64 0] 37)).alloc (.cells #[.int .i64 0, .int .i64 0, .int .i64 0, .int .i64 0, .int .i64 0] 40)).setRow w2.heap.size #[.int .i64 pc2, .int .i64 tp2, .int .i64 (r2 0), .int .i64 (r2 1), .int .i64 (r2 2), .int .i64 (r2 3), .int .i64 (r2 4), .int .i64 (r2 5), .int .i64 (r2 6), .int .i64 (r2 7), .int .i64 (r2 8), .int .i64 (r2 9), .int .i64 (r2 10), .int .i64 (r2 11), .int .i64 (r2 12), .int .i64 (r2 13), .int .i64 (r2 14), .int .i64 (r2 15)]).setRow (w2.heap.size + 1) #[.int .i64 k2, .int .i64 n2, .int .i64 a2, .int .i64 f2, .int .i64 g2] = W := ⟨_, rfl⟩
      rw [hW] at M4 ⊢
      clear hW e1 M3 M2 M1 hpc
      generalize w2.heap.size + 1 = b4 at M4 ⊢
      generalize w2.heap.size = b3 at M4 ⊢
      have c11 : W.cell? ⟨b4, 0, none⟩ = some (.int .i64 k2) := by rw [M4.out.cel.cell]; rfl
      by_cases hk0 : k2 = 0
      · subst hk0
        have HR3 : Hid (runG ⟨pc2, tp2, r2⟩ L2 ((k : Int) + 1) (M - k - 1) = R) := Lib.hid (by
          have := HRUN2.out
          rwa [if_neg (by decide), if_pos rfl] at this)
        have hw1 : wrap64 ((k : Int) + 1) = (k : Int) + 1 := by unfold wrap64; omega
        have M5 := Lib.hid ((M4.out.r5.setrow #[.int .i64 pc2, .int .i64 tp2, .int .i64 (r2 0), .int .i64 (r2 1), .int .i64 (r2 2), .int .i64 (r2 3), .int .i64 (r2 4), .int .i64 (r2 5), .int .i64 (r2 6), .int .i64 (r2 7), .int .i64 (r2 8), .int .i64 (r2 9), .int .i64 (r2 10), .int .i64 (r2 11), .int .i64 (r2 12), .int .i64 (r2 13), .int .i64 (r2 14), .int .i64 (r2 15)]).swap.right.swap.right.r3.r3)
        go_wp2_with (first | (refine wpList_load_row rfl 37 _ rfl b3 rfl 37 #[.int .i64 pc2, .int .i64 tp2, .int .i64 (r2 0), .int .i64 (r2 1), .int .i64 (r2 2), .int .i64 (r2 3), .int .i64 (r2 4), .int .i64 (r2 5), .int .i64 (r2 6), .int .i64 (r2 7), .int .i64 (r2 8), .int .i64 (r2 9), .int .i64 (r2 10), .int .i64 (r2 11), .int .i64 (r2 12), .int .i64 (r2 13), .int .i64 (r2 14), .int .i64 (r2 15)] (0, 0) _ M4.out.swap.cel Try.underlying37 rfl (by kernel_rfl) ?_) | (refine wpList_store_row rfl 37 _ _ rfl b0 #[.int .i64 pc2, .int .i64 tp2, .int .i64 (r2 0), .int .i64 (r2 1), .int .i64 (r2 2), .int .i64 (r2 3), .int .i64 (r2 4), .int .i64 (r2 5), .int .i64 (r2 6), .int .i64 (r2 7), .int .i64 (r2 8), .int .i64 (r2 9), .int .i64 (r2 10), .int .i64 (r2 11), .int .i64 (r2 12), .int .i64 (r2 13), .int .i64 (r2 14), .int .i64 (r2 15)] rfl rfl 37 #[.int .i64 pc, .int .i64 tp, .int .i64 (r 0), .int .i64 (r 1), .int .i64 (r 2), .int .i64 (r 3), .int .i64 (r 4), .int .i64 (r 5), .int .i64 (r 6), .int .i64 (r 7), .int .i64 (r 8), .int .i64 (r 9), .int .i64 (r 10), .int .i64 (r 11), .int .i64 (r 12), .int .i64 (r 13), .int .i64 (r 14), .int .i64 (r 15)] M4.out.r5.cel (by kernel_rfl) rfl (by kernel_rfl) ?_))
        go_roundw
        case rel => exact ⟨k + 1, ⟨pc2, tp2, r2⟩, L2, Lib.hid ⟨hkM, by rfl, M5.out, HOK2.out, by rw [← HR3.out, Nat.sub_sub]; rfl⟩⟩
        case measure =>
          have hi : intOf (Value.int .i64 ((k : Int) + 1)) = (k : Int) + 1 := rfl
          have hj : intOf (Value.int .i64 (k : Int)) = (k : Int) := rfl
          omega
      · have hb0 : (k2 == 0) = false := beq_eq_false_iff_ne.2 hk0
        have hn0 : (k2 != 0) = true := bne_iff_ne.2 hk0
        by_cases hk1 : k2 = 1
        · subst hk1
          have HE : Hid (R = ((⟨pc2, tp2, r2⟩, ⟨1, n2, a2, f2, g2⟩, (k : Int), L2) : Ctx × Evt × Int × List Rg)) := Lib.hid (by
            have := HRUN2.out
            rw [if_pos (by decide)] at this
            exact this.symm)
          clear HRUN2 HSTEP HKEEP
          go_wp2_with fail
          have N0 := Lib.hid (M4.out.stay below_drw)
          have NE : Hid (b3 ≠ b1 ∧ b4 ≠ b1 ∧ b3 ≠ b2 ∧ b4 ≠ b2) := Lib.hid ⟨N0.out.right.swap.right.ne, N0.out.r4.ne.symm, N0.out.right.ne, N0.out.r3.ne.symm⟩
          have HSK3 : Hid (∀ X : World, (fun X => X.heap[b3]? = some (.cells #[.int .i64 pc2, .int .i64 tp2, .int .i64 (r2 0), .int .i64 (r2 1), .int .i64 (r2 2), .int .i64 (r2 3), .int .i64 (r2 4), .int .i64 (r2 5), .int .i64 (r2 6), .int .i64 (r2 7), .int .i64 (r2 8), .int .i64 (r2 9), .int .i64 (r2 10), .int .i64 (r2 11), .int .i64 (r2 12), .int .i64 (r2 13), .int .i64 (r2 14), .int .i64 (r2 15)] 37 (0, 0)) ∧ X.heap[b4]? = some (.cells #[.int .i64 1, .int .i64 n2, .int .i64 a2, .int .i64 f2, .int .i64 g2] 40 (0, 0))) X → (fun X => X.heap[b3]? = some (.cells #[.int .i64 pc2, .int .i64 tp2, .int .i64 (r2 0), .int .i64 (r2 1), .int .i64 (r2 2), .int .i64 (r2 3), .int .i64 (r2 4), .int .i64 (r2 5), .int .i64 (r2 6), .int .i64 (r2 7), .int .i64 (r2 8), .int .i64 (r2 9), .int .i64 (r2 10), .int .i64 (r2 11), .int .i64 (r2 12), .int .i64 (r2 13), .int .i64 (r2 14), .int .i64 (r2 15)] 37 (0, 0)) ∧ X.heap[b4]? = some (.cells #[.int .i64 1, .int .i64 n2, .int .i64 a2, .int .i64 f2, .int .i64 g2] 40 (0, 0))) (X.setRow b1 #[.int .i64 pc2, .int .i64 tp2, .int .i64 (r2 0), .int .i64 (r2 1), .int .i64 (r2 2), .int .i64 (r2 3), .int .i64 (r2 4), .int .i64 (r2 5), .int .i64 (r2 6), .int .i64 (r2 7), .int .i64 (r2 8), .int .i64 (r2 9), .int .i64 (r2 10), .int .i64 (r2 11), .int .i64 (r2 12), .int .i64 (r2 13), .int .i64 (r2 14), .int .i64 (r2 15)])) := Lib.hid (fun X h => ⟨(setRow_other _ _ _ _ NE.out.1).trans h.1, (setRow_other _ _ _ _ NE.out.2.1).trans h.2⟩)
          have HSK4 : Hid (∀ X : World, (fun X => X.heap[b3]? = some (.cells #[.int .i64 pc2, .int .i64 tp2, .int .i64 (r2 0), .int .i64 (r2 1), .int .i64 (r2 2), .int .i64 (r2 3), .int .i64 (r2 4), .int .i64 (r2 5), .int .i64 (r2 6), .int .i64 (r2 7), .int .i64 (r2 8), .int .i64 (r2 9), .int .i64 (r2 10), .int .i64 (r2 11), .int .i64 (r2 12), .int .i64 (r2 13), .int .i64 (r2 14), .int .i64 (r2 15)] 37 (0, 0)) ∧ X.heap[b4]? = some (.cells #[.int .i64 1, .int .i64 n2, .int .i64 a2, .int .i64 f2, .int .i64 g2] 40 (0, 0))) X → (fun X => X.heap[b3]? = some (.cells #[.int .i64 pc2, .int .i64 tp2, .int .i64 (r2 0), .int .i64 (r2 1), .int .i64 (r2 2), .int .i64 (r2 3), .int .i64 (r2 4), .int .i64 (r2 5), .int .i64 (r2 6), .int .i64 (r2 7), .int .i64 (r2 8), .int .i64 (r2 9), .int .i64 (r2 10), .int .i64 (r2 11), .int .i64 (r2 12), .int .i64 (r2 13), .int .i64 (r2 14), .int .i64 (r2 15)] 37 (0, 0)) ∧ X.heap[b4]? = some (.cells #[.int .i64 1, .int .i64 n2, .int .i64 a2, .int .i64 f2, .int .i64 g2] 40 (0, 0))) (X.setRow b2 #[.int .i64 1, .int .i64 n2, .int .i64 a2, .int .i64 f2, .int .i64 g2])) := Lib.hid (fun X h => ⟨(setRow_other _ _ _ _ NE.out.2.2.1).trans h.1, (setRow_other _ _ _ _ NE.out.2.2.2).trans h.2⟩)
          have N1 := Lib.hid (N0.out.r4.setrow #[.int .i64 pc2, .int .i64 tp2, .int .i64 (r2 0), .int .i64 (r2 1), .int .i64 (r2 2), .int .i64 (r2 3), .int .i64 (r2 4), .int .i64 (r2 5), .int .i64 (r2 6), .int .i64 (r2 7), .int .i64 (r2 8), .int .i64 (r2 9), .int .i64 (r2 10), .int .i64 (r2 11), .int .i64 (r2 12), .int .i64 (r2 13), .int .i64 (r2 14), .int .i64 (r2 15)]).r3.r4
          have N2 := Lib.hid (N0.out.r4.setrow #[.int .i64 pc2, .int .i64 tp2, .int .i64 (r2 0), .int .i64 (r2 1), .int .i64 (r2 2), .int .i64 (r2 3), .int .i64 (r2 4), .int .i64 (r2 5), .int .i64 (r2 6), .int .i64 (r2 7), .int .i64 (r2 8), .int .i64 (r2 9), .int .i64 (r2 10), .int .i64 (r2 11), .int .i64 (r2 12), .int .i64 (r2 13), .int .i64 (r2 14), .int .i64 (r2 15)])
          have FA := Lib.hid (N2.out.r4.setrow #[.int .i64 1, .int .i64 n2, .int .i64 a2, .int .i64 f2, .int .i64 g2])
          have HS0 : (fun X => X.heap[b3]? = some (.cells #[.int .i64 pc2, .int .i64 tp2, .int .i64 (r2 0), .int .i64 (r2 1), .int .i64 (r2 2), .int .i64 (r2 3), .int .i64 (r2 4), .int .i64 (r2 5), .int .i64 (r2 6), .int .i64 (r2 7), .int .i64 (r2 8), .int .i64 (r2 9), .int .i64 (r2 10), .int .i64 (r2 11), .int .i64 (r2 12), .int .i64 (r2 13), .int .i64 (r2 14), .int .i64 (r2 15)] 37 (0, 0)) ∧ X.heap[b4]? = some (.cells #[.int .i64 1, .int .i64 n2, .int .i64 a2, .int .i64 f2, .int .i64 g2] 40 (0, 0))) W.drew := ⟨N0.out.swap.cel, N0.out.cel⟩
          refine wp_region_noPanic ?_
          refine wp_region_held_drew (S := fun X => X.heap[b3]? = some (.cells #[.int .i64 pc2, .int .i64 tp2, .int .i64 (r2 0), .int .i64 (r2 1), .int .i64 (r2 2), .int .i64 (r2 3), .int .i64 (r2 4), .int .i64 (r2 5), .int .i64 (r2 6), .int .i64 (r2 7), .int .i64 (r2 8), .int .i64 (r2 9), .int .i64 (r2 10), .int .i64 (r2 11), .int .i64 (r2 12), .int .i64 (r2 13), .int .i64 (r2 14), .int .i64 (r2 15)] 37 (0, 0)) ∧ X.heap[b4]? = some (.cells #[.int .i64 1, .int .i64 n2, .int .i64 a2, .int .i64 f2, .int .i64 g2] 40 (0, 0))) (by kernel_rfl) HS0 ?_
          clear HS0
          intro hS
          refine wpAnyH_take (i := 0) rfl (by kernel_rfl) (by kernel_rfl) (by kernel_rfl) (fun _ _ _ h => h) (yields_load_row rfl 37 _ rfl b3 rfl 37 #[.int .i64 pc2, .int .i64 tp2, .int .i64 (r2 0), .int .i64 (r2 1), .int .i64 (r2 2), .int .i64 (r2 3), .int .i64 (r2 4), .int .i64 (r2 5), .int .i64 (r2 6), .int .i64 (r2 7), .int .i64 (r2 8), .int .i64 (r2 9), .int .i64 (r2 10), .int .i64 (r2 11), .int .i64 (r2 12), .int .i64 (r2 13), .int .i64 (r2 14), .int .i64 (r2 15)] _ (fun w h => h.1) Try.underlying37 rfl (by kernel_rfl)) hS ?_
          refine wpAnyH_take (i := 1) rfl (by kernel_rfl) (by kernel_rfl) (by kernel_rfl) (fun _ _ _ h => h) (yields_load_row rfl 40 _ rfl b4 rfl 40 #[.int .i64 1, .int .i64 n2, .int .i64 a2, .int .i64 f2, .int .i64 g2] _ (fun w h => h.2) Try.underlying40 rfl (by kernel_rfl)) hS ?_
          refine wpAnyH_take (i := 2) (v := .int .i64 (k)) rfl (by kernel_rfl) (by kernel_rfl) (by kernel_rfl) (fun _ _ _ h => h) (yields_pure rfl (fun w => rfl)) hS ?_
          refine wpAnyH_all (rs := [3]) (by kernel_rfl) (by simp) ?_
          intro i hi
          obtain rfl : i = 3 := by simpa using hi
          refine wpOp_store_row rfl rfl 37 _ _ rfl b1 #[.int .i64 pc2, .int .i64 tp2, .int .i64 (r2 0), .int .i64 (r2 1), .int .i64 (r2 2), .int .i64 (r2 3), .int .i64 (r2 4), .int .i64 (r2 5), .int .i64 (r2 6), .int .i64 (r2 7), .int .i64 (r2 8), .int .i64 (r2 9), .int .i64 (r2 10), .int .i64 (r2 11), .int .i64 (r2 12), .int .i64 (r2 13), .int .i64 (r2 14), .int .i64 (r2 15)] rfl rfl 37 #[.int .i64 0, .int .i64 0, .int .i64 0, .int .i64 0, .int .i64 0, .int .i64 0, .int .i64 0, .int .i64 0, .int .i64 0, .int .i64 0, .int .i64 0, .int .i64 0, .int .i64 0, .int .i64 0, .int .i64 0, .int .i64 0, .int .i64 0, .int .i64 0] N0.out.r4.cel (by kernel_rfl) rfl (by kernel_rfl) ?_
          refine ⟨HSK3.out _ hS, ?_⟩
          refine wpAnyH_all (rs := [4]) (by kernel_rfl) (by simp) ?_
          intro i hi
          obtain rfl : i = 4 := by simpa using hi
          refine wpOp_store_row rfl rfl 40 _ _ rfl b2 #[.int .i64 1, .int .i64 n2, .int .i64 a2, .int .i64 f2, .int .i64 g2] rfl rfl 40 #[.int .i64 0, .int .i64 0, .int .i64 0, .int .i64 0, .int .i64 0] N2.out.r4.cel (by kernel_rfl) rfl (by kernel_rfl) ?_
          refine ⟨HSK4.out _ (HSK3.out _ hS), ?_⟩
          refine wpAnyH_take (i := 5) (v := .int .i64 (k)) rfl (by kernel_rfl) (by kernel_rfl) (by kernel_rfl) (fun _ _ _ h => h) (yields_pure rfl (fun w => rfl)) (HSK4.out _ (HSK3.out _ hS)) ?_
          refine wpAnyH_done (by kernel_rfl) ?_ _
          refine NoPanic.normal ?_
          go_wp2
          try simp only [Exit.inBlock, Exit.then]
          refine bodyPost_ret (results_cell3_row (p := 6) (u := 7) (q := 8) (ty := 37) (uy := 40) rfl _ _ b1 b2 37 40 #[.int .i64 pc2, .int .i64 tp2, .int .i64 (r2 0), .int .i64 (r2 1), .int .i64 (r2 2), .int .i64 (r2 3), .int .i64 (r2 4), .int .i64 (r2 5), .int .i64 (r2 6), .int .i64 (r2 7), .int .i64 (r2 8), .int .i64 (r2 9), .int .i64 (r2 10), .int .i64 (r2 11), .int .i64 (r2 12), .int .i64 (r2 13), .int .i64 (r2 14), .int .i64 (r2 15)] #[.int .i64 1, .int .i64 n2, .int .i64 a2, .int .i64 f2, .int .i64 g2] _ _ rfl FA.out.swap.cel Try.underlying37 rfl (by kernel_rfl) rfl FA.out.cel Try.underlying40 rfl (by kernel_rfl) (.int .i64 (k)) rfl) rfl ?_
          exact ⟨by rw [HE.out]; rfl, by rw [HE.out]; exact FA.out.right.right.right.right.right⟩
        · have hb1 : (k2 == 1) = false := beq_eq_false_iff_ne.2 hk1
          have hn1 : (k2 != 1) = true := bne_iff_ne.2 hk1
          by_cases hk5 : k2 = 5
          · subst hk5
            have HE : Hid (R = ((⟨pc2, tp2, r2⟩, ⟨5, n2, a2, f2, g2⟩, (k : Int), L2) : Ctx × Evt × Int × List Rg)) := Lib.hid (by
              have := HRUN2.out
              rw [if_pos (by decide)] at this
              exact this.symm)
            clear HRUN2 HSTEP HKEEP
            go_wp2_with fail
            have N0 := Lib.hid (M4.out.stay below_drw)
            have NE : Hid (b3 ≠ b1 ∧ b4 ≠ b1 ∧ b3 ≠ b2 ∧ b4 ≠ b2) := Lib.hid ⟨N0.out.right.swap.right.ne, N0.out.r4.ne.symm, N0.out.right.ne, N0.out.r3.ne.symm⟩
            have HSK3 : Hid (∀ X : World, (fun X => X.heap[b3]? = some (.cells #[.int .i64 pc2, .int .i64 tp2, .int .i64 (r2 0), .int .i64 (r2 1), .int .i64 (r2 2), .int .i64 (r2 3), .int .i64 (r2 4), .int .i64 (r2 5), .int .i64 (r2 6), .int .i64 (r2 7), .int .i64 (r2 8), .int .i64 (r2 9), .int .i64 (r2 10), .int .i64 (r2 11), .int .i64 (r2 12), .int .i64 (r2 13), .int .i64 (r2 14), .int .i64 (r2 15)] 37 (0, 0)) ∧ X.heap[b4]? = some (.cells #[.int .i64 5, .int .i64 n2, .int .i64 a2, .int .i64 f2, .int .i64 g2] 40 (0, 0))) X → (fun X => X.heap[b3]? = some (.cells #[.int .i64 pc2, .int .i64 tp2, .int .i64 (r2 0), .int .i64 (r2 1), .int .i64 (r2 2), .int .i64 (r2 3), .int .i64 (r2 4), .int .i64 (r2 5), .int .i64 (r2 6), .int .i64 (r2 7), .int .i64 (r2 8), .int .i64 (r2 9), .int .i64 (r2 10), .int .i64 (r2 11), .int .i64 (r2 12), .int .i64 (r2 13), .int .i64 (r2 14), .int .i64 (r2 15)] 37 (0, 0)) ∧ X.heap[b4]? = some (.cells #[.int .i64 5, .int .i64 n2, .int .i64 a2, .int .i64 f2, .int .i64 g2] 40 (0, 0))) (X.setRow b1 #[.int .i64 pc2, .int .i64 tp2, .int .i64 (r2 0), .int .i64 (r2 1), .int .i64 (r2 2), .int .i64 (r2 3), .int .i64 (r2 4), .int .i64 (r2 5), .int .i64 (r2 6), .int .i64 (r2 7), .int .i64 (r2 8), .int .i64 (r2 9), .int .i64 (r2 10), .int .i64 (r2 11), .int .i64 (r2 12), .int .i64 (r2 13), .int .i64 (r2 14), .int .i64 (r2 15)])) := Lib.hid (fun X h => ⟨(setRow_other _ _ _ _ NE.out.1).trans h.1, (setRow_other _ _ _ _ NE.out.2.1).trans h.2⟩)
            have HSK4 : Hid (∀ X : World, (fun X => X.heap[b3]? = some (.cells #[.int .i64 pc2, .int .i64 tp2, .int .i64 (r2 0), .int .i64 (r2 1), .int .i64 (r2 2), .int .i64 (r2 3), .int .i64 (r2 4), .int .i64 (r2 5), .int .i64 (r2 6), .int .i64 (r2 7), .int .i64 (r2 8), .int .i64 (r2 9), .int .i64 (r2 10), .int .i64 (r2 11), .int .i64 (r2 12), .int .i64 (r2 13), .int .i64 (r2 14), .int .i64 (r2 15)] 37 (0, 0)) ∧ X.heap[b4]? = some (.cells #[.int .i64 5, .int .i64 n2, .int .i64 a2, .int .i64 f2, .int .i64 g2] 40 (0, 0))) X → (fun X => X.heap[b3]? = some (.cells #[.int .i64 pc2, .int .i64 tp2, .int .i64 (r2 0), .int .i64 (r2 1), .int .i64 (r2 2), .int .i64 (r2 3), .int .i64 (r2 4), .int .i64 (r2 5), .int .i64 (r2 6), .int .i64 (r2 7), .int .i64 (r2 8), .int .i64 (r2 9), .int .i64 (r2 10), .int .i64 (r2 11), .int .i64 (r2 12), .int .i64 (r2 13), .int .i64 (r2 14), .int .i64 (r2 15)] 37 (0, 0)) ∧ X.heap[b4]? = some (.cells #[.int .i64 5, .int .i64 n2, .int .i64 a2, .int .i64 f2, .int .i64 g2] 40 (0, 0))) (X.setRow b2 #[.int .i64 5, .int .i64 n2, .int .i64 a2, .int .i64 f2, .int .i64 g2])) := Lib.hid (fun X h => ⟨(setRow_other _ _ _ _ NE.out.2.2.1).trans h.1, (setRow_other _ _ _ _ NE.out.2.2.2).trans h.2⟩)
            have N1 := Lib.hid (N0.out.r4.setrow #[.int .i64 pc2, .int .i64 tp2, .int .i64 (r2 0), .int .i64 (r2 1), .int .i64 (r2 2), .int .i64 (r2 3), .int .i64 (r2 4), .int .i64 (r2 5), .int .i64 (r2 6), .int .i64 (r2 7), .int .i64 (r2 8), .int .i64 (r2 9), .int .i64 (r2 10), .int .i64 (r2 11), .int .i64 (r2 12), .int .i64 (r2 13), .int .i64 (r2 14), .int .i64 (r2 15)]).r3.r4
            have N2 := Lib.hid (N0.out.r4.setrow #[.int .i64 pc2, .int .i64 tp2, .int .i64 (r2 0), .int .i64 (r2 1), .int .i64 (r2 2), .int .i64 (r2 3), .int .i64 (r2 4), .int .i64 (r2 5), .int .i64 (r2 6), .int .i64 (r2 7), .int .i64 (r2 8), .int .i64 (r2 9), .int .i64 (r2 10), .int .i64 (r2 11), .int .i64 (r2 12), .int .i64 (r2 13), .int .i64 (r2 14), .int .i64 (r2 15)])
            have FA := Lib.hid (N2.out.r4.setrow #[.int .i64 5, .int .i64 n2, .int .i64 a2, .int .i64 f2, .int .i64 g2])
            have HS0 : (fun X => X.heap[b3]? = some (.cells #[.int .i64 pc2, .int .i64 tp2, .int .i64 (r2 0), .int .i64 (r2 1), .int .i64 (r2 2), .int .i64 (r2 3), .int .i64 (r2 4), .int .i64 (r2 5), .int .i64 (r2 6), .int .i64 (r2 7), .int .i64 (r2 8), .int .i64 (r2 9), .int .i64 (r2 10), .int .i64 (r2 11), .int .i64 (r2 12), .int .i64 (r2 13), .int .i64 (r2 14), .int .i64 (r2 15)] 37 (0, 0)) ∧ X.heap[b4]? = some (.cells #[.int .i64 5, .int .i64 n2, .int .i64 a2, .int .i64 f2, .int .i64 g2] 40 (0, 0))) W.drew := ⟨N0.out.swap.cel, N0.out.cel⟩
            refine wp_region_noPanic ?_
            refine wp_region_held_drew (S := fun X => X.heap[b3]? = some (.cells #[.int .i64 pc2, .int .i64 tp2, .int .i64 (r2 0), .int .i64 (r2 1), .int .i64 (r2 2), .int .i64 (r2 3), .int .i64 (r2 4), .int .i64 (r2 5), .int .i64 (r2 6), .int .i64 (r2 7), .int .i64 (r2 8), .int .i64 (r2 9), .int .i64 (r2 10), .int .i64 (r2 11), .int .i64 (r2 12), .int .i64 (r2 13), .int .i64 (r2 14), .int .i64 (r2 15)] 37 (0, 0)) ∧ X.heap[b4]? = some (.cells #[.int .i64 5, .int .i64 n2, .int .i64 a2, .int .i64 f2, .int .i64 g2] 40 (0, 0))) (by kernel_rfl) HS0 ?_
            clear HS0
            intro hS
            refine wpAnyH_take (i := 0) rfl (by kernel_rfl) (by kernel_rfl) (by kernel_rfl) (fun _ _ _ h => h) (yields_load_row rfl 37 _ rfl b3 rfl 37 #[.int .i64 pc2, .int .i64 tp2, .int .i64 (r2 0), .int .i64 (r2 1), .int .i64 (r2 2), .int .i64 (r2 3), .int .i64 (r2 4), .int .i64 (r2 5), .int .i64 (r2 6), .int .i64 (r2 7), .int .i64 (r2 8), .int .i64 (r2 9), .int .i64 (r2 10), .int .i64 (r2 11), .int .i64 (r2 12), .int .i64 (r2 13), .int .i64 (r2 14), .int .i64 (r2 15)] _ (fun w h => h.1) Try.underlying37 rfl (by kernel_rfl)) hS ?_
            refine wpAnyH_take (i := 1) rfl (by kernel_rfl) (by kernel_rfl) (by kernel_rfl) (fun _ _ _ h => h) (yields_load_row rfl 40 _ rfl b4 rfl 40 #[.int .i64 5, .int .i64 n2, .int .i64 a2, .int .i64 f2, .int .i64 g2] _ (fun w h => h.2) Try.underlying40 rfl (by kernel_rfl)) hS ?_
            refine wpAnyH_take (i := 2) (v := .int .i64 (k)) rfl (by kernel_rfl) (by kernel_rfl) (by kernel_rfl) (fun _ _ _ h => h) (yields_pure rfl (fun w => rfl)) hS ?_
            refine wpAnyH_all (rs := [3]) (by kernel_rfl) (by simp) ?_
            intro i hi
            obtain rfl : i = 3 := by simpa using hi
            refine wpOp_store_row rfl rfl 37 _ _ rfl b1 #[.int .i64 pc2, .int .i64 tp2, .int .i64 (r2 0), .int .i64 (r2 1), .int .i64 (r2 2), .int .i64 (r2 3), .int .i64 (r2 4), .int .i64 (r2 5), .int .i64 (r2 6), .int .i64 (r2 7), .int .i64 (r2 8), .int .i64 (r2 9), .int .i64 (r2 10), .int .i64 (r2 11), .int .i64 (r2 12), .int .i64 (r2 13), .int .i64 (r2 14), .int .i64 (r2 15)] rfl rfl 37 #[.int .i64 0, .int .i64 0, .int .i64 0, .int .i64 0, .int .i64 0, .int .i64 0, .int .i64 0, .int .i64 0, .int .i64 0, .int .i64 0, .int .i64 0, .int .i64 0, .int .i64 0, .int .i64 0, .int .i64 0, .int .i64 0, .int .i64 0, .int .i64 0] N0.out.r4.cel (by kernel_rfl) rfl (by kernel_rfl) ?_
            refine ⟨HSK3.out _ hS, ?_⟩
            refine wpAnyH_all (rs := [4]) (by kernel_rfl) (by simp) ?_
            intro i hi
            obtain rfl : i = 4 := by simpa using hi
            refine wpOp_store_row rfl rfl 40 _ _ rfl b2 #[.int .i64 5, .int .i64 n2, .int .i64 a2, .int .i64 f2, .int .i64 g2] rfl rfl 40 #[.int .i64 0, .int .i64 0, .int .i64 0, .int .i64 0, .int .i64 0] N2.out.r4.cel (by kernel_rfl) rfl (by kernel_rfl) ?_
            refine ⟨HSK4.out _ (HSK3.out _ hS), ?_⟩
            refine wpAnyH_take (i := 5) (v := .int .i64 (k)) rfl (by kernel_rfl) (by kernel_rfl) (by kernel_rfl) (fun _ _ _ h => h) (yields_pure rfl (fun w => rfl)) (HSK4.out _ (HSK3.out _ hS)) ?_
            refine wpAnyH_done (by kernel_rfl) ?_ _
            refine NoPanic.normal ?_
            go_wp2
            try simp only [Exit.inBlock, Exit.then]
            refine bodyPost_ret (results_cell3_row (p := 6) (u := 7) (q := 8) (ty := 37) (uy := 40) rfl _ _ b1 b2 37 40 #[.int .i64 pc2, .int .i64 tp2, .int .i64 (r2 0), .int .i64 (r2 1), .int .i64 (r2 2), .int .i64 (r2 3), .int .i64 (r2 4), .int .i64 (r2 5), .int .i64 (r2 6), .int .i64 (r2 7), .int .i64 (r2 8), .int .i64 (r2 9), .int .i64 (r2 10), .int .i64 (r2 11), .int .i64 (r2 12), .int .i64 (r2 13), .int .i64 (r2 14), .int .i64 (r2 15)] #[.int .i64 5, .int .i64 n2, .int .i64 a2, .int .i64 f2, .int .i64 g2] _ _ rfl FA.out.swap.cel Try.underlying37 rfl (by kernel_rfl) rfl FA.out.cel Try.underlying40 rfl (by kernel_rfl) (.int .i64 (k)) rfl) rfl ?_
            exact ⟨by rw [HE.out]; rfl, by rw [HE.out]; exact FA.out.right.right.right.right.right⟩
          · have hb5 : (k2 == 5) = false := beq_eq_false_iff_ne.2 hk5
            have hn5 : (k2 != 5) = true := bne_iff_ne.2 hk5
            have HE : Hid (R = ((⟨pc2, tp2, r2⟩, ⟨k2, n2, a2, f2, g2⟩, (k : Int) + 1, L2) : Ctx × Evt × Int × List Rg)) := Lib.hid (by
              have := HRUN2.out
              rw [if_neg (by omega), if_neg hk0] at this
              exact this.symm)
            have hw1 : wrap64 ((k : Int) + 1) = (k : Int) + 1 := by unfold wrap64; omega
            clear HRUN2 HSTEP HKEEP hk0 hk1 hk5
            go_wp2_with fail
            have N0 := Lib.hid (M4.out.stay below_drw)
            have NE : Hid (b3 ≠ b1 ∧ b4 ≠ b1 ∧ b3 ≠ b2 ∧ b4 ≠ b2) := Lib.hid ⟨N0.out.right.swap.right.ne, N0.out.r4.ne.symm, N0.out.right.ne, N0.out.r3.ne.symm⟩
            have HSK3 : Hid (∀ X : World, (fun X => X.heap[b3]? = some (.cells #[.int .i64 pc2, .int .i64 tp2, .int .i64 (r2 0), .int .i64 (r2 1), .int .i64 (r2 2), .int .i64 (r2 3), .int .i64 (r2 4), .int .i64 (r2 5), .int .i64 (r2 6), .int .i64 (r2 7), .int .i64 (r2 8), .int .i64 (r2 9), .int .i64 (r2 10), .int .i64 (r2 11), .int .i64 (r2 12), .int .i64 (r2 13), .int .i64 (r2 14), .int .i64 (r2 15)] 37 (0, 0)) ∧ X.heap[b4]? = some (.cells #[.int .i64 k2, .int .i64 n2, .int .i64 a2, .int .i64 f2, .int .i64 g2] 40 (0, 0))) X → (fun X => X.heap[b3]? = some (.cells #[.int .i64 pc2, .int .i64 tp2, .int .i64 (r2 0), .int .i64 (r2 1), .int .i64 (r2 2), .int .i64 (r2 3), .int .i64 (r2 4), .int .i64 (r2 5), .int .i64 (r2 6), .int .i64 (r2 7), .int .i64 (r2 8), .int .i64 (r2 9), .int .i64 (r2 10), .int .i64 (r2 11), .int .i64 (r2 12), .int .i64 (r2 13), .int .i64 (r2 14), .int .i64 (r2 15)] 37 (0, 0)) ∧ X.heap[b4]? = some (.cells #[.int .i64 k2, .int .i64 n2, .int .i64 a2, .int .i64 f2, .int .i64 g2] 40 (0, 0))) (X.setRow b1 #[.int .i64 pc2, .int .i64 tp2, .int .i64 (r2 0), .int .i64 (r2 1), .int .i64 (r2 2), .int .i64 (r2 3), .int .i64 (r2 4), .int .i64 (r2 5), .int .i64 (r2 6), .int .i64 (r2 7), .int .i64 (r2 8), .int .i64 (r2 9), .int .i64 (r2 10), .int .i64 (r2 11), .int .i64 (r2 12), .int .i64 (r2 13), .int .i64 (r2 14), .int .i64 (r2 15)])) := Lib.hid (fun X h => ⟨(setRow_other _ _ _ _ NE.out.1).trans h.1, (setRow_other _ _ _ _ NE.out.2.1).trans h.2⟩)
            have HSK4 : Hid (∀ X : World, (fun X => X.heap[b3]? = some (.cells #[.int .i64 pc2, .int .i64 tp2, .int .i64 (r2 0), .int .i64 (r2 1), .int .i64 (r2 2), .int .i64 (r2 3), .int .i64 (r2 4), .int .i64 (r2 5), .int .i64 (r2 6), .int .i64 (r2 7), .int .i64 (r2 8), .int .i64 (r2 9), .int .i64 (r2 10), .int .i64 (r2 11), .int .i64 (r2 12), .int .i64 (r2 13), .int .i64 (r2 14), .int .i64 (r2 15)] 37 (0, 0)) ∧ X.heap[b4]? = some (.cells #[.int .i64 k2, .int .i64 n2, .int .i64 a2, .int .i64 f2, .int .i64 g2] 40 (0, 0))) X → (fun X => X.heap[b3]? = some (.cells #[.int .i64 pc2, .int .i64 tp2, .int .i64 (r2 0), .int .i64 (r2 1), .int .i64 (r2 2), .int .i64 (r2 3), .int .i64 (r2 4), .int .i64 (r2 5), .int .i64 (r2 6), .int .i64 (r2 7), .int .i64 (r2 8), .int .i64 (r2 9), .int .i64 (r2 10), .int .i64 (r2 11), .int .i64 (r2 12), .int .i64 (r2 13), .int .i64 (r2 14), .int .i64 (r2 15)] 37 (0, 0)) ∧ X.heap[b4]? = some (.cells #[.int .i64 k2, .int .i64 n2, .int .i64 a2, .int .i64 f2, .int .i64 g2] 40 (0, 0))) (X.setRow b2 #[.int .i64 k2, .int .i64 n2, .int .i64 a2, .int .i64 f2, .int .i64 g2])) := Lib.hid (fun X h => ⟨(setRow_other _ _ _ _ NE.out.2.2.1).trans h.1, (setRow_other _ _ _ _ NE.out.2.2.2).trans h.2⟩)
            have N1 := Lib.hid (N0.out.r4.setrow #[.int .i64 pc2, .int .i64 tp2, .int .i64 (r2 0), .int .i64 (r2 1), .int .i64 (r2 2), .int .i64 (r2 3), .int .i64 (r2 4), .int .i64 (r2 5), .int .i64 (r2 6), .int .i64 (r2 7), .int .i64 (r2 8), .int .i64 (r2 9), .int .i64 (r2 10), .int .i64 (r2 11), .int .i64 (r2 12), .int .i64 (r2 13), .int .i64 (r2 14), .int .i64 (r2 15)]).r3.r4
            have N2 := Lib.hid (N0.out.r4.setrow #[.int .i64 pc2, .int .i64 tp2, .int .i64 (r2 0), .int .i64 (r2 1), .int .i64 (r2 2), .int .i64 (r2 3), .int .i64 (r2 4), .int .i64 (r2 5), .int .i64 (r2 6), .int .i64 (r2 7), .int .i64 (r2 8), .int .i64 (r2 9), .int .i64 (r2 10), .int .i64 (r2 11), .int .i64 (r2 12), .int .i64 (r2 13), .int .i64 (r2 14), .int .i64 (r2 15)])
            have FA := Lib.hid (N2.out.r4.setrow #[.int .i64 k2, .int .i64 n2, .int .i64 a2, .int .i64 f2, .int .i64 g2])
            have HS0 : (fun X => X.heap[b3]? = some (.cells #[.int .i64 pc2, .int .i64 tp2, .int .i64 (r2 0), .int .i64 (r2 1), .int .i64 (r2 2), .int .i64 (r2 3), .int .i64 (r2 4), .int .i64 (r2 5), .int .i64 (r2 6), .int .i64 (r2 7), .int .i64 (r2 8), .int .i64 (r2 9), .int .i64 (r2 10), .int .i64 (r2 11), .int .i64 (r2 12), .int .i64 (r2 13), .int .i64 (r2 14), .int .i64 (r2 15)] 37 (0, 0)) ∧ X.heap[b4]? = some (.cells #[.int .i64 k2, .int .i64 n2, .int .i64 a2, .int .i64 f2, .int .i64 g2] 40 (0, 0))) W.drew := ⟨N0.out.swap.cel, N0.out.cel⟩
            refine wp_region_noPanic ?_
            refine wp_region_held_drew (S := fun X => X.heap[b3]? = some (.cells #[.int .i64 pc2, .int .i64 tp2, .int .i64 (r2 0), .int .i64 (r2 1), .int .i64 (r2 2), .int .i64 (r2 3), .int .i64 (r2 4), .int .i64 (r2 5), .int .i64 (r2 6), .int .i64 (r2 7), .int .i64 (r2 8), .int .i64 (r2 9), .int .i64 (r2 10), .int .i64 (r2 11), .int .i64 (r2 12), .int .i64 (r2 13), .int .i64 (r2 14), .int .i64 (r2 15)] 37 (0, 0)) ∧ X.heap[b4]? = some (.cells #[.int .i64 k2, .int .i64 n2, .int .i64 a2, .int .i64 f2, .int .i64 g2] 40 (0, 0))) (by kernel_rfl) HS0 ?_
            clear HS0
            intro hS
            refine wpAnyH_take (i := 0) rfl (by kernel_rfl) (by kernel_rfl) (by kernel_rfl) (fun _ _ _ h => h) (yields_load_row rfl 37 _ rfl b3 rfl 37 #[.int .i64 pc2, .int .i64 tp2, .int .i64 (r2 0), .int .i64 (r2 1), .int .i64 (r2 2), .int .i64 (r2 3), .int .i64 (r2 4), .int .i64 (r2 5), .int .i64 (r2 6), .int .i64 (r2 7), .int .i64 (r2 8), .int .i64 (r2 9), .int .i64 (r2 10), .int .i64 (r2 11), .int .i64 (r2 12), .int .i64 (r2 13), .int .i64 (r2 14), .int .i64 (r2 15)] _ (fun w h => h.1) Try.underlying37 rfl (by kernel_rfl)) hS ?_
            refine wpAnyH_take (i := 1) rfl (by kernel_rfl) (by kernel_rfl) (by kernel_rfl) (fun _ _ _ h => h) (yields_load_row rfl 40 _ rfl b4 rfl 40 #[.int .i64 k2, .int .i64 n2, .int .i64 a2, .int .i64 f2, .int .i64 g2] _ (fun w h => h.2) Try.underlying40 rfl (by kernel_rfl)) hS ?_
            refine wpAnyH_take (i := 2) (v := .int .i64 ((k : Int) + 1)) rfl (by kernel_rfl) (by kernel_rfl) (by kernel_rfl) (fun _ _ _ h => h) (yields_pure rfl (fun w => rfl)) hS ?_
            refine wpAnyH_all (rs := [3]) (by kernel_rfl) (by simp) ?_
            intro i hi
            obtain rfl : i = 3 := by simpa using hi
            refine wpOp_store_row rfl rfl 37 _ _ rfl b1 #[.int .i64 pc2, .int .i64 tp2, .int .i64 (r2 0), .int .i64 (r2 1), .int .i64 (r2 2), .int .i64 (r2 3), .int .i64 (r2 4), .int .i64 (r2 5), .int .i64 (r2 6), .int .i64 (r2 7), .int .i64 (r2 8), .int .i64 (r2 9), .int .i64 (r2 10), .int .i64 (r2 11), .int .i64 (r2 12), .int .i64 (r2 13), .int .i64 (r2 14), .int .i64 (r2 15)] rfl rfl 37 #[.int .i64 0, .int .i64 0, .int .i64 0, .int .i64 0, .int .i64 0, .int .i64 0, .int .i64 0, .int .i64 0, .int .i64 0, .int .i64 0, .int .i64 0, .int .i64 0, .int .i64 0, .int .i64 0, .int .i64 0, .int .i64 0, .int .i64 0, .int .i64 0] N0.out.r4.cel (by kernel_rfl) rfl (by kernel_rfl) ?_
            refine ⟨HSK3.out _ hS, ?_⟩
            refine wpAnyH_all (rs := [4]) (by kernel_rfl) (by simp) ?_
            intro i hi
            obtain rfl : i = 4 := by simpa using hi
            refine wpOp_store_row rfl rfl 40 _ _ rfl b2 #[.int .i64 k2, .int .i64 n2, .int .i64 a2, .int .i64 f2, .int .i64 g2] rfl rfl 40 #[.int .i64 0, .int .i64 0, .int .i64 0, .int .i64 0, .int .i64 0] N2.out.r4.cel (by kernel_rfl) rfl (by kernel_rfl) ?_
            refine ⟨HSK4.out _ (HSK3.out _ hS), ?_⟩
            refine wpAnyH_take (i := 5) (v := .int .i64 ((k : Int) + 1)) rfl (by kernel_rfl) (by kernel_rfl) (by kernel_rfl) (fun _ _ _ h => h) (yields_pure rfl (fun w => rfl)) (HSK4.out _ (HSK3.out _ hS)) ?_
            refine wpAnyH_done (by kernel_rfl) ?_ _
            refine NoPanic.normal ?_
            go_wp2
            try simp only [Exit.inBlock, Exit.then]
            refine bodyPost_ret (results_cell3_row (p := 6) (u := 7) (q := 8) (ty := 37) (uy := 40) rfl _ _ b1 b2 37 40 #[.int .i64 pc2, .int .i64 tp2, .int .i64 (r2 0), .int .i64 (r2 1), .int .i64 (r2 2), .int .i64 (r2 3), .int .i64 (r2 4), .int .i64 (r2 5), .int .i64 (r2 6), .int .i64 (r2 7), .int .i64 (r2 8), .int .i64 (r2 9), .int .i64 (r2 10), .int .i64 (r2 11), .int .i64 (r2 12), .int .i64 (r2 13), .int .i64 (r2 14), .int .i64 (r2 15)] #[.int .i64 k2, .int .i64 n2, .int .i64 a2, .int .i64 f2, .int .i64 g2] _ _ rfl FA.out.swap.cel Try.underlying37 rfl (by kernel_rfl) rfl FA.out.cel Try.underlying40 rfl (by kernel_rfl) (.int .i64 ((k : Int) + 1)) rfl) rfl ?_
            exact ⟨by rw [HE.out]; rfl, by rw [HE.out]; exact FA.out.right.right.right.right.right⟩
    · obtain rfl : k = M := by omega
      have HE : Hid (R = ((⟨pc, tp, r⟩, ⟨if pc = 0 then 1 else 6, 0, 0, 0, 0⟩, (k : Int), L) : Ctx × Evt × Int × List Rg)) := Lib.hid (by rw [← HRUN.out, Nat.sub_self]; rfl)
      clear HRUN HSTEP HKEEP
      have M2 := Lib.hid (M1.out.swap.setrow #[.int .i64 pc, .int .i64 tp, .int .i64 (r 0), .int .i64 (r 1), .int .i64 (r 2), .int .i64 (r 3), .int .i64 (r 4), .int .i64 (r 5), .int .i64 (r 6), .int .i64 (r 7), .int .i64 (r 8), .int .i64 (r 9), .int .i64 (r 10), .int .i64 (r 11), .int .i64 (r 12), .int .i64 (r 13), .int .i64 (r 14), .int .i64 (r 15)]).swap
      by_cases hp0 : pc = 0
      · subst hp0
        have M3 := Lib.hid (M2.out.setrow #[.int .i64 1, .int .i64 0, .int .i64 0, .int .i64 0, .int .i64 0])
        go_wp2_with (first | (refine wpList_load_row rfl 37 _ rfl b0 rfl 37 #[.int .i64 0, .int .i64 tp, .int .i64 (r 0), .int .i64 (r 1), .int .i64 (r 2), .int .i64 (r 3), .int .i64 (r 4), .int .i64 (r 5), .int .i64 (r 6), .int .i64 (r 7), .int .i64 (r 8), .int .i64 (r 9), .int .i64 (r 10), .int .i64 (r 11), .int .i64 (r 12), .int .i64 (r 13), .int .i64 (r 14), .int .i64 (r 15)] (0, 0) _ M1.out.r3.cel Try.underlying37 rfl (by kernel_rfl) ?_) | (refine wpList_store_row rfl 37 _ _ rfl b1 #[.int .i64 0, .int .i64 tp, .int .i64 (r 0), .int .i64 (r 1), .int .i64 (r 2), .int .i64 (r 3), .int .i64 (r 4), .int .i64 (r 5), .int .i64 (r 6), .int .i64 (r 7), .int .i64 (r 8), .int .i64 (r 9), .int .i64 (r 10), .int .i64 (r 11), .int .i64 (r 12), .int .i64 (r 13), .int .i64 (r 14), .int .i64 (r 15)] rfl rfl 37 #[.int .i64 0, .int .i64 0, .int .i64 0, .int .i64 0, .int .i64 0, .int .i64 0, .int .i64 0, .int .i64 0, .int .i64 0, .int .i64 0, .int .i64 0, .int .i64 0, .int .i64 0, .int .i64 0, .int .i64 0, .int .i64 0, .int .i64 0, .int .i64 0] M1.out.swap.cel (by kernel_rfl) rfl (by kernel_rfl) ?_) | (refine wpList_store_row rfl 40 _ _ rfl b2 #[.int .i64 1, .int .i64 0, .int .i64 0, .int .i64 0, .int .i64 0] rfl rfl 40 #[.int .i64 0, .int .i64 0, .int .i64 0, .int .i64 0, .int .i64 0] M2.out.cel (by kernel_rfl) rfl (by kernel_rfl) ?_))
        try simp only [Exit.inBlock, Exit.then]
        refine bodyPost_ret (results_cell3_row (p := 6) (u := 7) (q := 8) (ty := 37) (uy := 40) rfl _ _ b1 b2 37 40 #[.int .i64 0, .int .i64 tp, .int .i64 (r 0), .int .i64 (r 1), .int .i64 (r 2), .int .i64 (r 3), .int .i64 (r 4), .int .i64 (r 5), .int .i64 (r 6), .int .i64 (r 7), .int .i64 (r 8), .int .i64 (r 9), .int .i64 (r 10), .int .i64 (r 11), .int .i64 (r 12), .int .i64 (r 13), .int .i64 (r 14), .int .i64 (r 15)] #[.int .i64 1, .int .i64 0, .int .i64 0, .int .i64 0, .int .i64 0] _ _ rfl M3.out.swap.cel Try.underlying37 rfl (by kernel_rfl) rfl M3.out.cel Try.underlying40 rfl (by kernel_rfl) _ rfl) rfl ?_
        exact ⟨by rw [HE.out]; first | rfl | (simp only [if_pos]; rfl), by rw [HE.out]; exact M3.out.right.right.right⟩
      · have hp0' : (pc == 0) = false := beq_eq_false_iff_ne.2 hp0
        have M3 := Lib.hid (M2.out.setrow #[.int .i64 6, .int .i64 0, .int .i64 0, .int .i64 0, .int .i64 0])
        go_wp2_with (first | (refine wpList_load_row rfl 37 _ rfl b0 rfl 37 #[.int .i64 pc, .int .i64 tp, .int .i64 (r 0), .int .i64 (r 1), .int .i64 (r 2), .int .i64 (r 3), .int .i64 (r 4), .int .i64 (r 5), .int .i64 (r 6), .int .i64 (r 7), .int .i64 (r 8), .int .i64 (r 9), .int .i64 (r 10), .int .i64 (r 11), .int .i64 (r 12), .int .i64 (r 13), .int .i64 (r 14), .int .i64 (r 15)] (0, 0) _ M1.out.r3.cel Try.underlying37 rfl (by kernel_rfl) ?_) | (refine wpList_store_row rfl 37 _ _ rfl b1 #[.int .i64 pc, .int .i64 tp, .int .i64 (r 0), .int .i64 (r 1), .int .i64 (r 2), .int .i64 (r 3), .int .i64 (r 4), .int .i64 (r 5), .int .i64 (r 6), .int .i64 (r 7), .int .i64 (r 8), .int .i64 (r 9), .int .i64 (r 10), .int .i64 (r 11), .int .i64 (r 12), .int .i64 (r 13), .int .i64 (r 14), .int .i64 (r 15)] rfl rfl 37 #[.int .i64 0, .int .i64 0, .int .i64 0, .int .i64 0, .int .i64 0, .int .i64 0, .int .i64 0, .int .i64 0, .int .i64 0, .int .i64 0, .int .i64 0, .int .i64 0, .int .i64 0, .int .i64 0, .int .i64 0, .int .i64 0, .int .i64 0, .int .i64 0] M1.out.swap.cel (by kernel_rfl) rfl (by kernel_rfl) ?_) | (refine wpList_store_row rfl 40 _ _ rfl b2 #[.int .i64 6, .int .i64 0, .int .i64 0, .int .i64 0, .int .i64 0] rfl rfl 40 #[.int .i64 0, .int .i64 0, .int .i64 0, .int .i64 0, .int .i64 0] M2.out.cel (by kernel_rfl) rfl (by kernel_rfl) ?_))
        try simp only [Exit.inBlock, Exit.then]
        refine bodyPost_ret (results_cell3_row (p := 6) (u := 7) (q := 8) (ty := 37) (uy := 40) rfl _ _ b1 b2 37 40 #[.int .i64 pc, .int .i64 tp, .int .i64 (r 0), .int .i64 (r 1), .int .i64 (r 2), .int .i64 (r 3), .int .i64 (r 4), .int .i64 (r 5), .int .i64 (r 6), .int .i64 (r 7), .int .i64 (r 8), .int .i64 (r 9), .int .i64 (r 10), .int .i64 (r 11), .int .i64 (r 12), .int .i64 (r 13), .int .i64 (r 14), .int .i64 (r 15)] #[.int .i64 6, .int .i64 0, .int .i64 0, .int .i64 0, .int .i64 0] _ _ rfl M3.out.swap.cel Try.underlying37 rfl (by kernel_rfl) rfl M3.out.cel Try.underlying40 rfl (by kernel_rfl) _ rfl) rfl ?_
        exact ⟨by rw [HE.out]; first | rfl | (simp only [if_neg hp0]; rfl), by rw [HE.out]; exact M3.out.right.right.right⟩
end
end Go.Proofs.Ytkpaeogjefjbfaa
