/-
  Layer 6: a step of the program.
  Conditions: none. (My own text.)
-/
import Derived.Test.YtkpaeogjefjbfaaCpl
namespace Go.Proofs.Ytkpaeogjefjbfaa
open Go.RowKit Spm
set_option linter.unusedVariables false
set_option linter.unusedSimpArgs false

section
variable {B : Nat} {w wr w' : World} {s : Nat} {cx : Ctx} {L : List Rg} {Y : Res}
set_option maxRecDepth 100000 in
set_option maxHeartbeats 8000000 in
theorem step_of [hY : Fr Y] (h : Has B w wr (Star (Sp s L) Y)) (hc : CtxOk cx)
    (hact : ∀ (g : Nat) (w1 : World) (Y2 : Res) (hY2 : Fr Y2), Has B w w1 (Star (Mc g cx s ev0) (Star (Sp s L) Y2)) → ∀ i : Ins, mayS i = true → Calls Try.prog 33 #[.pointer (some ⟨g, 0, none⟩), i.val, .int .i64 (wrap64 (cx.pc + 8))] w1 (ActE B w g s (actS cx L i (wrap64 (cx.pc + 8))) Y2))
    (hdec : ∀ (A : Option Addr) (c : Nat) (b : List UInt8), b.length = 8 → 8 ≤ c → c ≤ maxLen → ∀ w1 : World, SrcB w1 A b → Calls Try.prog 32 #[.slice A 8 c] w1 (DecE b w1)) :
    Calls Try.prog 17 #[cx.val, .pointer (some ⟨s, 0, none⟩)] wr fun x w' => x = .returned (.tuple #[(stepS cx L).1.val, (stepS cx L).2.1.val]) ∧ Has B w w' (Star (Sp s (stepS cx L).2.2) Y) := by
  obtain ⟨R, hR⟩ : ∃ R, stepS cx L = R := ⟨_, rfl⟩
  obtain ⟨pc, tp, r⟩ := cx
  rw [hR]
  have HR := Lib.hid hR
  have HACT := Lib.hid hact
  have HDEC := Lib.hid hdec
  have M0 := Lib.hid (((h.newcel 37 #[.int .i64 pc, .int .i64 tp, .int .i64 (r 0), .int .i64 (r 1), .int .i64 (r 2), .int .i64 (r 3), .int .i64 (r 4), .int .i64 (r 5), .int .i64 (r 6), .int .i64 (r 7), .int .i64 (r 8), .int .i64 (r 9), .int .i64 (r 10), .int .i64 (r 11), .int .i64 (r 12), .int .i64 (r 13), .int .i64 (r 14), .int .i64 (r 15)]).newcel 37 #[.int .i64 0, .int .i64 0, .int .i64 0, .int .i64 0, .int .i64 0, .int .i64 0, .int .i64 0, .int .i64 0, .int .i64 0, .int .i64 0, .int .i64 0, .int .i64 0, .int .i64 0, .int .i64 0, .int .i64 0, .int .i64 0, .int .i64 0, .int .i64 0]).newcel 40 #[.int .i64 0, .int .i64 0, .int .i64 0, .int .i64 0, .int .i64 0])
  have HOK := Lib.hid h.ok
  clear hR hact hdec h
  have hpc := hc.pc.2
  simp only at hpc
  unfold Ctx.val
  simp only
  go_enter Try.func17, Try.ntmps17
  go_upto_region 1 with (fail)
  have e1 : (wr.alloc (.cells #[.int .i64 pc, .int .i64 tp, .int .i64 (r 0), .int .i64 (r 1), .int .i64 (r 2), .int .i64 (r 3), .int .i64 (r 4), .int .i64 (r 5), .int .i64 (r 6), .int .i64 (r 7), .int .i64 (r 8), .int .i64 (r 9), .int .i64 (r 10), .int .i64 (r 11), .int .i64 (r 12), .int .i64 (r 13), .int .i64 (r 14), .int .i64 (r 15)] 37)).heap.size = wr.heap.size + 1 := by simp
  have e2 : ((wr.alloc (.cells #[.int .i64 pc, .int .i64 tp, .int .i64 (r 0), .int .i64 (r 1), .int .i64 (r 2), .int .i64 (r 3), .int .i64 (r 4), .int .i64 (r 5), .int .i64 (r 6), .int .i64 (r 7), .int .i64 (r 8), .int .i64 (r 9), .int .i64 (r 10), .int .i64 (r 11), .int .i64 (r 12), .int .i64 (r 13), .int .i64 (r 14), .int .i64 (r 15)] 37)).alloc (.cells #[.int .i64 0, .int .i64 0, .int .i64 0, .int .i64 0, .int .i64 0, .int .i64 0, .int .i64 0, .int .i64 0, .int .i64 0, .int .i64 0, .int .i64 0, .int .i64 0, .int .i64 0, .int .i64 0, .int .i64 0, .int .i64 0, .int .i64 0, .int .i64 0] 37)).heap.size = wr.heap.size + 1 + 1 := by simp
  rw [e2, e1] at M0
  obtain ⟨W, hW⟩ : ∃ W, (((wr.alloc (.cells #[.int .i64 pc, .int .i64 tp, .int .i64 (r 0), .int .i64 (r 1), .int .i64 (r 2), .int .i64 (r 3), .int .i64 (r 4), .int .i64 (r 5), .int .i64 (r 6), .int .i64 (r 7), .int .i64 (r 8), .int .i64 (r 9), .int .i64 (r 10), .int .i64 (r 11), .int .i64 (r 12), .int .i64 (r 13), .int .i64 (r 14), .int .i64 (r 15)] 37)).alloc (.cells #[.int .i64 0, .int .i64 0, .int .i64 0, .int .i64 0, .int .i64 0, .int .i64 0, .int .i64 0, .int .i64 0, .int .i64 0, .int .i64 0, .int .i64 0, .int .i64 0, .int .i64 0, .int .i64 0, .int .i64 0, .int .i64 0, .int .i64 0, .int .i64 0] 37)).alloc (.cells #[.int .i64 0, .int .i64 0, .int .i64 0, .int .i64 0, .int .i64 0] 40)) = W := ⟨_, rfl⟩
  rw [hW] at M0 ⊢
  clear e1 e2 hW
  generalize wr.heap.size + 1 + 1 = b2 at M0 ⊢
  generalize wr.heap.size + 1 = b1 at M0 ⊢
  generalize wr.heap.size = b0 at M0 ⊢
  have c0 : W.cell? ⟨b0, 0, none⟩ = some (.int .i64 pc) := by rw [M0.out.r3.cel.cell]; rfl
  by_cases hp0 : pc = 0
  · subst hp0
    have HE : Hid (R = (⟨0, tp, r⟩, ⟨1, 0, 0, 0, 0⟩, L)) := Lib.hid (by rw [← HR.out]; unfold stepS; rw [if_pos rfl])
    have M1 := Lib.hid (M0.out.swap.setrow #[.int .i64 0, .int .i64 tp, .int .i64 (r 0), .int .i64 (r 1), .int .i64 (r 2), .int .i64 (r 3), .int .i64 (r 4), .int .i64 (r 5), .int .i64 (r 6), .int .i64 (r 7), .int .i64 (r 8), .int .i64 (r 9), .int .i64 (r 10), .int .i64 (r 11), .int .i64 (r 12), .int .i64 (r 13), .int .i64 (r 14), .int .i64 (r 15)]).swap
    have M2 := Lib.hid (M1.out.setrow #[.int .i64 1, .int .i64 0, .int .i64 0, .int .i64 0, .int .i64 0])
    clear HACT HDEC HR
    go_wp2_with (first | (refine wpList_load_row rfl 37 _ rfl b0 rfl 37 #[.int .i64 0, .int .i64 tp, .int .i64 (r 0), .int .i64 (r 1), .int .i64 (r 2), .int .i64 (r 3), .int .i64 (r 4), .int .i64 (r 5), .int .i64 (r 6), .int .i64 (r 7), .int .i64 (r 8), .int .i64 (r 9), .int .i64 (r 10), .int .i64 (r 11), .int .i64 (r 12), .int .i64 (r 13), .int .i64 (r 14), .int .i64 (r 15)] (0, 0) _ M0.out.r3.cel Try.underlying37 rfl (by kernel_rfl) ?_) | (refine wpList_store_row rfl 37 _ _ rfl b1 #[.int .i64 0, .int .i64 tp, .int .i64 (r 0), .int .i64 (r 1), .int .i64 (r 2), .int .i64 (r 3), .int .i64 (r 4), .int .i64 (r 5), .int .i64 (r 6), .int .i64 (r 7), .int .i64 (r 8), .int .i64 (r 9), .int .i64 (r 10), .int .i64 (r 11), .int .i64 (r 12), .int .i64 (r 13), .int .i64 (r 14), .int .i64 (r 15)] rfl rfl 37 #[.int .i64 0, .int .i64 0, .int .i64 0, .int .i64 0, .int .i64 0, .int .i64 0, .int .i64 0, .int .i64 0, .int .i64 0, .int .i64 0, .int .i64 0, .int .i64 0, .int .i64 0, .int .i64 0, .int .i64 0, .int .i64 0, .int .i64 0, .int .i64 0] M0.out.swap.cel (by kernel_rfl) rfl (by kernel_rfl) ?_) | (refine wpList_store_row rfl 40 _ _ rfl b2 #[.int .i64 1, .int .i64 0, .int .i64 0, .int .i64 0, .int .i64 0] rfl rfl 40 #[.int .i64 0, .int .i64 0, .int .i64 0, .int .i64 0, .int .i64 0] M1.out.cel (by kernel_rfl) rfl (by kernel_rfl) ?_))
    try simp only [Exit.inBlock, Exit.then]
    refine bodyPost_ret (results_cell2_row (p := 4) (u := 5) (ty := 37) (uy := 40) rfl _ _ b1 b2 37 40 #[.int .i64 0, .int .i64 tp, .int .i64 (r 0), .int .i64 (r 1), .int .i64 (r 2), .int .i64 (r 3), .int .i64 (r 4), .int .i64 (r 5), .int .i64 (r 6), .int .i64 (r 7), .int .i64 (r 8), .int .i64 (r 9), .int .i64 (r 10), .int .i64 (r 11), .int .i64 (r 12), .int .i64 (r 13), .int .i64 (r 14), .int .i64 (r 15)] #[.int .i64 1, .int .i64 0, .int .i64 0, .int .i64 0, .int .i64 0] _ _ rfl M2.out.swap.cel Try.underlying37 rfl (by kernel_rfl) rfl M2.out.cel Try.underlying40 rfl (by kernel_rfl)) rfl ?_
    exact ⟨by rw [HE.out]; rfl, by rw [HE.out]; exact M2.out.right.right.right⟩
  · have hp0' : (pc == 0) = false := beq_eq_false_iff_ne.2 hp0
    have M1 : Hid (Has B w (W.alloc (.cells #[.int .i64 pc, .int .i64 tp, .int .i64 (r 0), .int .i64 (r 1), .int .i64 (r 2), .int .i64 (r 3), .int .i64 (r 4), .int .i64 (r 5), .int .i64 (r 6), .int .i64 (r 7), .int .i64 (r 8), .int .i64 (r 9), .int .i64 (r 10), .int .i64 (r 11), .int .i64 (r 12), .int .i64 (r 13), .int .i64 (r 14), .int .i64 (r 15), .pointer (some ⟨s, 0, none⟩), .int .i64 0, .int .i64 0, .int .i64 0, .int .i64 0, .int .i64 0] 82)) (Star (Cel W.heap.size 82 #[.int .i64 pc, .int .i64 tp, .int .i64 (r 0), .int .i64 (r 1), .int .i64 (r 2), .int .i64 (r 3), .int .i64 (r 4), .int .i64 (r 5), .int .i64 (r 6), .int .i64 (r 7), .int .i64 (r 8), .int .i64 (r 9), .int .i64 (r 10), .int .i64 (r 11), .int .i64 (r 12), .int .i64 (r 13), .int .i64 (r 14), .int .i64 (r 15), .pointer (some ⟨s, 0, none⟩), .int .i64 0, .int .i64 0, .int .i64 0, .int .i64 0, .int .i64 0]) (Star (Cel b2 40 #[.int .i64 0, .int .i64 0, .int .i64 0, .int .i64 0, .int .i64 0]) (Star (Cel b1 37 #[.int .i64 0, .int .i64 0, .int .i64 0, .int .i64 0, .int .i64 0, .int .i64 0, .int .i64 0, .int .i64 0, .int .i64 0, .int .i64 0, .int .i64 0, .int .i64 0, .int .i64 0, .int .i64 0, .int .i64 0, .int .i64 0, .int .i64 0, .int .i64 0]) (Star (Cel b0 37 #[.int .i64 pc, .int .i64 tp, .int .i64 (r 0), .int .i64 (r 1), .int .i64 (r 2), .int .i64 (r 3), .int .i64 (r 4), .int .i64 (r 5), .int .i64 (r 6), .int .i64 (r 7), .int .i64 (r 8), .int .i64 (r 9), .int .i64 (r 10), .int .i64 (r 11), .int .i64 (r 12), .int .i64 (r 13), .int .i64 (r 14), .int .i64 (r 15)]) (Star (Sp s L) Y)))))) := Lib.hid (M0.out.newcel _ _)
    go_upto_region 4 with (first | (refine wpList_load_row rfl 37 _ rfl b0 rfl 37 #[.int .i64 pc, .int .i64 tp, .int .i64 (r 0), .int .i64 (r 1), .int .i64 (r 2), .int .i64 (r 3), .int .i64 (r 4), .int .i64 (r 5), .int .i64 (r 6), .int .i64 (r 7), .int .i64 (r 8), .int .i64 (r 9), .int .i64 (r 10), .int .i64 (r 11), .int .i64 (r 12), .int .i64 (r 13), .int .i64 (r 14), .int .i64 (r 15)] (0, 0) _ M0.out.r3.cel Try.underlying37 rfl (by kernel_rfl) ?_))
    obtain ⟨W1, hW1⟩ : ∃ W1, W.alloc (.cells #[.int .i64 pc, .int .i64 tp, .int .i64 (r 0), .int .i64 (r 1), .int .i64 (r 2), .int .i64 (r 3), .int .i64 (r 4), .int .i64 (r 5), .int .i64 (r 6), .int .i64 (r 7), .int .i64 (r 8), .int .i64 (r 9), .int .i64 (r 10), .int .i64 (r 11), .int .i64 (r 12), .int .i64 (r 13), .int .i64 (r 14), .int .i64 (r 15), .pointer (some ⟨s, 0, none⟩), .int .i64 0, .int .i64 0, .int .i64 0, .int .i64 0, .int .i64 0] 82) = W1 := ⟨_, rfl⟩
    obtain ⟨g, hg⟩ : ∃ g, W.heap.size = g := ⟨_, rfl⟩
    rw [hW1, hg] at M1
    try rw [hW1]
    try simp only [hg]
    clear hW1 hg c0 M0
    have c0 : W1.cell? ⟨b0, 0, none⟩ = some (.int .i64 pc) := by rw [M1.out.r4.cel.cell]; rfl
    have C2 := Lib.hid (own_fetch M1.out.r5 pc hpc)
    go_wp2_with fail
    refine (C2.out).mono ?_
    rintro e w2 ⟨v2, rfl, m2⟩
    obtain ⟨A2, cc2, rfl, hc1, hc2, _⟩ := m2.bt.src'
    have M2 := Lib.hid m2; clear m2 C2 M1
    have C3 := Lib.hid (trap_any (g := g) (c := ⟨pc, tp, r⟩) (s := s) (e := ev0) M2.out.r3 (getS L pc 8 4).2)
    obtain ⟨bs, hbs⟩ : ∃ bs, (getS L pc 8 4).1 = bs := ⟨_, rfl⟩
    obtain ⟨E, hE⟩ : ∃ E, (getS L pc 8 4).2 = E := ⟨_, rfl⟩
    have HG := Lib.hid (And.intro hbs hE)
    rw [hbs] at M2 C3 hc1 ⊢
    rw [hE] at C3 ⊢
    clear hbs hE c0
    by_cases hE0 : E = 0
    · subst hE0
      have h8 : bs.length = 8 := by
        have := get_len8 HOK.out (x := pc) (p := 4) HG.out.2
        rwa [HG.out.1] at this
      rw [h8] at hc1 ⊢
      have hsr : SrcB w2 A2 bs := by
        obtain ⟨A', c', e', _, _, hs⟩ := M2.out.bt.src'
        rw [h8] at e'
        simp only [Value.slice.injEq, true_and] at e'
        obtain ⟨rfl, rfl⟩ := e'
        exact hs
      clear hsr
      go_wp2_with fail
      refine (C3.out).mono ?_
      rintro e w3 ⟨rfl, m3⟩
      simp only [↓reduceIte] at m3
      have M3 := Lib.hid m3; clear m3 C3 M2
      have hsr : SrcB w3 A2 bs := by
        obtain ⟨A', c', e', _, _, hs⟩ := M3.out.swap.bt.src'
        rw [h8] at e'
        simp only [Value.slice.injEq, true_and] at e'
        obtain ⟨rfl, rfl⟩ := e'
        exact hs
      have C4 := Lib.hid (HDEC.out A2 cc2 bs h8 hc1 hc2 w3 hsr)
      clear hsr HDEC
      go_wp2_with fail
      refine (C4.out).mono ?_
      rintro e w4 ⟨hcase, hb4⟩
      clear C4
      rcases hcase with ⟨hok, v4, rfl, hown⟩ | ⟨hno, rfl⟩
      · have hi := hok.2 0 (by rw [h8]; decide)
        have HE0 : Hid (R = if (actS ⟨pc, tp, r⟩ L (insK bs 0) (wrap64 (pc + 8))).2.1.k = 5 then (⟨pc, tp, r⟩, (actS ⟨pc, tp, r⟩ L (insK bs 0) (wrap64 (pc + 8))).2.1, (actS ⟨pc, tp, r⟩ L (insK bs 0) (wrap64 (pc + 8))).2.2) else actS ⟨pc, tp, r⟩ L (insK bs 0) (wrap64 (pc + 8))) := Lib.hid (by
          rw [← HR.out]; unfold stepS
          rw [if_neg hp0]
          simp only
          rw [HG.out.2, HG.out.1, if_neg (by simp), hi, if_neg (by simp)])
        have hown' : w4.ownsRow w3.heap.size 30 5 v4 1 (insK bs 0).cells := by
          have := hown
          rw [h8] at this
          simpa [insRow] using this
        obtain ⟨gi, ci, rfl, hgi, _⟩ := hown'.form (by decide)
        have M4 := Lib.hid (M3.out.add (Y := fun X F => X.ownsRow 0 30 5 (.slice (some ⟨gi, 0, none⟩) 1 ci) 1 (insK bs 0).cells ∧ ∀ k, (Value.slice (some ⟨gi, 0, none⟩) 1 ci).ownBlock = some k → F k) hb4 ⟨owns_mono hown' (Nat.zero_le _), fun k hk => (hown'.lt k hk).1⟩)
        clear hown hown' hok hgi hb4 M3
        obtain ⟨iq, hiq⟩ : ∃ iq, insK bs 0 = iq := ⟨_, rfl⟩
        rw [hiq] at HE0 M4 hi
        clear hiq
        have hfr : Fr (fun X F => X.ownsRow 0 30 5 (.slice (some ⟨gi, 0, none⟩) 1 ci) 1 iq.cells ∧ ∀ k, (Value.slice (some ⟨gi, 0, none⟩) 1 ci).ownBlock = some k → F k) := fr_row
        have C5 := Lib.hid (trap_any M4.out.swap 0)
        go_wp2_with fail
        refine (C5.out).mono ?_
        rintro e w5 ⟨rfl, m5⟩
        try simp only [↓reduceIte] at m5
        have M5 := Lib.hid m5; clear m5 C5 M4
        have hir : w5.ownsRow 0 30 5 (.slice (some ⟨gi, 0, none⟩) 1 ci) 1 iq.cells := by
          obtain ⟨F, ⟨F1, F2, h1, _⟩, _⟩ := M5.out.swap.own
          exact h1.1
        have c0 : w5.cell? ⟨b0, 0, none⟩ = some (.int .i64 pc) := by rw [M5.out.right.right.right.r4.cel.cell]; rfl
        have C6 := Lib.hid (HACT.out g w5.drew _ inferInstance (M5.out.stay below_drw).r4.swap iq hi)
        obtain ⟨io, ia, ib, ic, iN⟩ := iq
        have i0 : w5.cell? ⟨gi, 0, none⟩ = some (.int .i64 io) := (hir.cellAt 0 (by decide)).trans rfl
        have i1 : w5.cell? ⟨gi, 1, none⟩ = some (.int .i64 ia) := (hir.cellAt 1 (by decide)).trans rfl
        have i2 : w5.cell? ⟨gi, 2, none⟩ = some (.int .i64 ib) := (hir.cellAt 2 (by decide)).trans rfl
        have i3 : w5.cell? ⟨gi, 3, none⟩ = some (.int .i64 ic) := (hir.cellAt 3 (by decide)).trans rfl
        have i4 : w5.cell? ⟨gi, 4, none⟩ = some (.int .i64 iN) := (hir.cellAt 4 (by decide)).trans rfl
        clear hir M5 HACT
        try simp only at C6 HE0
        generalize actS ⟨pc, tp, r⟩ L ⟨io, ia, ib, ic, iN⟩ (wrap64 (pc + 8)) = RA at C6 HE0
        obtain ⟨c2, e2, L2⟩ := RA
        unfold Ins.val at C6
        try simp only at C6
        try simp only at HE0
        go_wp2_with fail
        go_still_tail 7, (by kernel_rfl)
        change wpList _ _ _ _ _ w5.drew
        go_wp2_with fail
        refine (C6.out).mono ?_
        rintro e w6 ⟨rfl, m6⟩
        have M6 := Lib.hid m6; clear m6 C6 i0 i1 i2 i3 i4 c0
        try simp only at M6
        have N6 := Lib.hid M6.out.r3.right.r3.right
        clear M6
        have c19 : w6.cell? ⟨g, 19, none⟩ = some (.int .i64 e2.k) := by rw [N6.out.mblk.cell]; rfl
        have N0 := Lib.hid (N6.out.stay below_drw).r5.r5.r5
        clear N6
        by_cases hk : e2.k = 5
        · have HE : Hid (R = (⟨pc, tp, r⟩, e2, L2)) := Lib.hid (by rw [HE0.out, if_pos hk])
          have hk' : (e2.k == 5) = true := beq_iff_eq.2 hk
          clear hk HE0
          go_wp2_with fail
          have NE : Hid (b0 ≠ b1 ∧ g ≠ b1 ∧ b0 ≠ b2 ∧ g ≠ b2) := Lib.hid ⟨N0.out.right.swap.ne, N0.out.right.r3.ne, N0.out.r3.ne, N0.out.r4.ne⟩
          have HSK5 : Hid (∀ X : World, (fun X => X.heap[b0]? = some (.cells #[.int .i64 pc, .int .i64 tp, .int .i64 (r 0), .int .i64 (r 1), .int .i64 (r 2), .int .i64 (r 3), .int .i64 (r 4), .int .i64 (r 5), .int .i64 (r 6), .int .i64 (r 7), .int .i64 (r 8), .int .i64 (r 9), .int .i64 (r 10), .int .i64 (r 11), .int .i64 (r 12), .int .i64 (r 13), .int .i64 (r 14), .int .i64 (r 15)] 37 (0, 0)) ∧ ∀ (j : Nat) (v : Value), (#[.int .i64 e2.k, .int .i64 e2.n, .int .i64 e2.a, .int .i64 e2.b, .int .i64 e2.f] : Array Value).toList[j]? = some v → X.cell? ⟨g, 19 + j, none⟩ = some v) X → (fun X => X.heap[b0]? = some (.cells #[.int .i64 pc, .int .i64 tp, .int .i64 (r 0), .int .i64 (r 1), .int .i64 (r 2), .int .i64 (r 3), .int .i64 (r 4), .int .i64 (r 5), .int .i64 (r 6), .int .i64 (r 7), .int .i64 (r 8), .int .i64 (r 9), .int .i64 (r 10), .int .i64 (r 11), .int .i64 (r 12), .int .i64 (r 13), .int .i64 (r 14), .int .i64 (r 15)] 37 (0, 0)) ∧ ∀ (j : Nat) (v : Value), (#[.int .i64 e2.k, .int .i64 e2.n, .int .i64 e2.a, .int .i64 e2.b, .int .i64 e2.f] : Array Value).toList[j]? = some v → X.cell? ⟨g, 19 + j, none⟩ = some v) (X.setRow b1 #[.int .i64 pc, .int .i64 tp, .int .i64 (r 0), .int .i64 (r 1), .int .i64 (r 2), .int .i64 (r 3), .int .i64 (r 4), .int .i64 (r 5), .int .i64 (r 6), .int .i64 (r 7), .int .i64 (r 8), .int .i64 (r 9), .int .i64 (r 10), .int .i64 (r 11), .int .i64 (r 12), .int .i64 (r 13), .int .i64 (r 14), .int .i64 (r 15)])) := Lib.hid (fun X h => ⟨(setRow_other _ _ _ _ NE.out.1).trans h.1, fun j v hv => (World.cell?_of_block (a := ⟨g, 19 + j, none⟩) (setRow_other _ _ _ _ NE.out.2.1)).trans (h.2 j v hv)⟩)
          have HSK6 : Hid (∀ X : World, (fun X => X.heap[b0]? = some (.cells #[.int .i64 pc, .int .i64 tp, .int .i64 (r 0), .int .i64 (r 1), .int .i64 (r 2), .int .i64 (r 3), .int .i64 (r 4), .int .i64 (r 5), .int .i64 (r 6), .int .i64 (r 7), .int .i64 (r 8), .int .i64 (r 9), .int .i64 (r 10), .int .i64 (r 11), .int .i64 (r 12), .int .i64 (r 13), .int .i64 (r 14), .int .i64 (r 15)] 37 (0, 0)) ∧ ∀ (j : Nat) (v : Value), (#[.int .i64 e2.k, .int .i64 e2.n, .int .i64 e2.a, .int .i64 e2.b, .int .i64 e2.f] : Array Value).toList[j]? = some v → X.cell? ⟨g, 19 + j, none⟩ = some v) X → (fun X => X.heap[b0]? = some (.cells #[.int .i64 pc, .int .i64 tp, .int .i64 (r 0), .int .i64 (r 1), .int .i64 (r 2), .int .i64 (r 3), .int .i64 (r 4), .int .i64 (r 5), .int .i64 (r 6), .int .i64 (r 7), .int .i64 (r 8), .int .i64 (r 9), .int .i64 (r 10), .int .i64 (r 11), .int .i64 (r 12), .int .i64 (r 13), .int .i64 (r 14), .int .i64 (r 15)] 37 (0, 0)) ∧ ∀ (j : Nat) (v : Value), (#[.int .i64 e2.k, .int .i64 e2.n, .int .i64 e2.a, .int .i64 e2.b, .int .i64 e2.f] : Array Value).toList[j]? = some v → X.cell? ⟨g, 19 + j, none⟩ = some v) (X.setRow b2 #[.int .i64 e2.k, .int .i64 e2.n, .int .i64 e2.a, .int .i64 e2.b, .int .i64 e2.f])) := Lib.hid (fun X h => ⟨(setRow_other _ _ _ _ NE.out.2.2.1).trans h.1, fun j v hv => (World.cell?_of_block (a := ⟨g, 19 + j, none⟩) (setRow_other _ _ _ _ NE.out.2.2.2)).trans (h.2 j v hv)⟩)
          have FA := Lib.hid ((N0.out.swap.setrow #[.int .i64 pc, .int .i64 tp, .int .i64 (r 0), .int .i64 (r 1), .int .i64 (r 2), .int .i64 (r 3), .int .i64 (r 4), .int .i64 (r 5), .int .i64 (r 6), .int .i64 (r 7), .int .i64 (r 8), .int .i64 (r 9), .int .i64 (r 10), .int .i64 (r 11), .int .i64 (r 12), .int .i64 (r 13), .int .i64 (r 14), .int .i64 (r 15)]).swap.setrow #[.int .i64 e2.k, .int .i64 e2.n, .int .i64 e2.a, .int .i64 e2.b, .int .i64 e2.f])
          have HS0 : (fun X => X.heap[b0]? = some (.cells #[.int .i64 pc, .int .i64 tp, .int .i64 (r 0), .int .i64 (r 1), .int .i64 (r 2), .int .i64 (r 3), .int .i64 (r 4), .int .i64 (r 5), .int .i64 (r 6), .int .i64 (r 7), .int .i64 (r 8), .int .i64 (r 9), .int .i64 (r 10), .int .i64 (r 11), .int .i64 (r 12), .int .i64 (r 13), .int .i64 (r 14), .int .i64 (r 15)] 37 (0, 0)) ∧ ∀ (j : Nat) (v : Value), (#[.int .i64 e2.k, .int .i64 e2.n, .int .i64 e2.a, .int .i64 e2.b, .int .i64 e2.f] : Array Value).toList[j]? = some v → X.cell? ⟨g, 19 + j, none⟩ = some v) w6.drew := ⟨N0.out.r3.cel, fun j v hv => by rw [(Has.mblk N0.out.r4).cell]; exact mc_evt _ _ (e2) j v hv⟩
          refine wp_region_noPanic ?_
          refine wp_region_held_drew (S := fun X => X.heap[b0]? = some (.cells #[.int .i64 pc, .int .i64 tp, .int .i64 (r 0), .int .i64 (r 1), .int .i64 (r 2), .int .i64 (r 3), .int .i64 (r 4), .int .i64 (r 5), .int .i64 (r 6), .int .i64 (r 7), .int .i64 (r 8), .int .i64 (r 9), .int .i64 (r 10), .int .i64 (r 11), .int .i64 (r 12), .int .i64 (r 13), .int .i64 (r 14), .int .i64 (r 15)] 37 (0, 0)) ∧ ∀ (j : Nat) (v : Value), (#[.int .i64 e2.k, .int .i64 e2.n, .int .i64 e2.a, .int .i64 e2.b, .int .i64 e2.f] : Array Value).toList[j]? = some v → X.cell? ⟨g, 19 + j, none⟩ = some v) (by kernel_rfl) HS0 ?_
          clear HS0
          intro hS
          refine wpAnyH_take (i := 0) rfl (by kernel_rfl) (by kernel_rfl) (by kernel_rfl) (fun _ _ _ h => h) (yields_load_row rfl 37 _ rfl b0 (by kernel_rfl) 37 #[.int .i64 pc, .int .i64 tp, .int .i64 (r 0), .int .i64 (r 1), .int .i64 (r 2), .int .i64 (r 3), .int .i64 (r 4), .int .i64 (r 5), .int .i64 (r 6), .int .i64 (r 7), .int .i64 (r 8), .int .i64 (r 9), .int .i64 (r 10), .int .i64 (r 11), .int .i64 (r 12), .int .i64 (r 13), .int .i64 (r 14), .int .i64 (r 15)] _ (fun w h => h.1) Try.underlying37 rfl (by kernel_rfl)) hS ?_
          refine wpAnyH_take (i := 1) (v := .pointer (some ⟨g, 0, none⟩)) rfl (by kernel_rfl) (by kernel_rfl) (by kernel_rfl) (fun _ _ _ h => h) (yields_pure rfl (fun w => by kernel_rfl)) hS ?_
          refine wpAnyH_take (i := 2) (v := .pointer (some ⟨g, 0, none⟩)) rfl (by kernel_rfl) (by kernel_rfl) (by kernel_rfl) (fun _ _ _ h => h) (yields_pure rfl (fun w => by kernel_rfl)) hS ?_
          refine wpAnyH_take (i := 3) (v := .pointer (some ⟨g, 19, none⟩)) rfl (by kernel_rfl) (by kernel_rfl) (by kernel_rfl) (fun _ _ _ h => h) (yields_pure rfl (fun w => by kernel_rfl)) hS ?_
          refine wpAnyH_take (i := 4) rfl (by kernel_rfl) (by kernel_rfl) (by kernel_rfl) (fun _ _ _ h => h) (yields_load_part rfl 40 _ rfl g 19 (by kernel_rfl) #[.int .i64 e2.k, .int .i64 e2.n, .int .i64 e2.a, .int .i64 e2.b, .int .i64 e2.f] _ (fun w h => h.2) Try.underlying40 rfl (by kernel_rfl)) hS ?_
          refine wpAnyH_all (rs := [5]) (by kernel_rfl) (by simp) ?_
          intro i hi
          obtain rfl : i = 5 := by simpa using hi
          refine wpOp_store_row rfl rfl 37 _ _ rfl b1 #[.int .i64 pc, .int .i64 tp, .int .i64 (r 0), .int .i64 (r 1), .int .i64 (r 2), .int .i64 (r 3), .int .i64 (r 4), .int .i64 (r 5), .int .i64 (r 6), .int .i64 (r 7), .int .i64 (r 8), .int .i64 (r 9), .int .i64 (r 10), .int .i64 (r 11), .int .i64 (r 12), .int .i64 (r 13), .int .i64 (r 14), .int .i64 (r 15)] (by kernel_rfl) (by kernel_rfl) 37 #[.int .i64 0, .int .i64 0, .int .i64 0, .int .i64 0, .int .i64 0, .int .i64 0, .int .i64 0, .int .i64 0, .int .i64 0, .int .i64 0, .int .i64 0, .int .i64 0, .int .i64 0, .int .i64 0, .int .i64 0, .int .i64 0, .int .i64 0, .int .i64 0] (N0.out.swap.cel) (by kernel_rfl) rfl (by kernel_rfl) ?_
          refine ⟨HSK5.out _ hS, ?_⟩
          refine wpAnyH_all (rs := [6]) (by kernel_rfl) (by simp) ?_
          intro i hi
          obtain rfl : i = 6 := by simpa using hi
          refine wpOp_store_row rfl rfl 40 _ _ rfl b2 #[.int .i64 e2.k, .int .i64 e2.n, .int .i64 e2.a, .int .i64 e2.b, .int .i64 e2.f] (by kernel_rfl) (by kernel_rfl) 40 #[.int .i64 0, .int .i64 0, .int .i64 0, .int .i64 0, .int .i64 0] ((N0.out.swap.setrow #[.int .i64 pc, .int .i64 tp, .int .i64 (r 0), .int .i64 (r 1), .int .i64 (r 2), .int .i64 (r 3), .int .i64 (r 4), .int .i64 (r 5), .int .i64 (r 6), .int .i64 (r 7), .int .i64 (r 8), .int .i64 (r 9), .int .i64 (r 10), .int .i64 (r 11), .int .i64 (r 12), .int .i64 (r 13), .int .i64 (r 14), .int .i64 (r 15)]).swap.cel) (by kernel_rfl) rfl (by kernel_rfl) ?_
          refine ⟨HSK6.out _ (HSK5.out _ hS), ?_⟩
          refine wpAnyH_done (by kernel_rfl) ?_ _
          refine NoPanic.normal ?_
          go_wp2
          try simp only [Exit.inBlock, Exit.then]
          refine bodyPost_ret (results_cell2_row (p := 4) (u := 5) (ty := 37) (uy := 40) rfl _ _ b1 b2 37 40 #[.int .i64 pc, .int .i64 tp, .int .i64 (r 0), .int .i64 (r 1), .int .i64 (r 2), .int .i64 (r 3), .int .i64 (r 4), .int .i64 (r 5), .int .i64 (r 6), .int .i64 (r 7), .int .i64 (r 8), .int .i64 (r 9), .int .i64 (r 10), .int .i64 (r 11), .int .i64 (r 12), .int .i64 (r 13), .int .i64 (r 14), .int .i64 (r 15)] #[.int .i64 e2.k, .int .i64 e2.n, .int .i64 e2.a, .int .i64 e2.b, .int .i64 e2.f] _ _ rfl FA.out.swap.cel Try.underlying37 rfl (by kernel_rfl) rfl FA.out.cel Try.underlying40 rfl (by kernel_rfl)) rfl ?_
          exact ⟨by rw [HE.out]; rfl, by rw [HE.out]; exact FA.out.right.right.right.right⟩
        · have HE : Hid (R = (c2, e2, L2)) := Lib.hid (by rw [HE0.out, if_neg hk])
          have hk' : (e2.k == 5) = false := beq_eq_false_iff_ne.2 hk
          clear hk HE0
          go_wp2_with fail
          have NE : Hid (g ≠ b1 ∧ g ≠ b2) := Lib.hid ⟨N0.out.right.r3.ne, N0.out.r4.ne⟩
          have HSK8 : Hid (∀ X : World, (fun X => (∀ (j : Nat) (v : Value), (#[.int .i64 c2.pc, .int .i64 c2.tp, .int .i64 (c2.r 0), .int .i64 (c2.r 1), .int .i64 (c2.r 2), .int .i64 (c2.r 3), .int .i64 (c2.r 4), .int .i64 (c2.r 5), .int .i64 (c2.r 6), .int .i64 (c2.r 7), .int .i64 (c2.r 8), .int .i64 (c2.r 9), .int .i64 (c2.r 10), .int .i64 (c2.r 11), .int .i64 (c2.r 12), .int .i64 (c2.r 13), .int .i64 (c2.r 14), .int .i64 (c2.r 15)] : Array Value).toList[j]? = some v → X.cell? ⟨g, 0 + j, none⟩ = some v) ∧ ∀ (j : Nat) (v : Value), (#[.int .i64 e2.k, .int .i64 e2.n, .int .i64 e2.a, .int .i64 e2.b, .int .i64 e2.f] : Array Value).toList[j]? = some v → X.cell? ⟨g, 19 + j, none⟩ = some v) X → (fun X => (∀ (j : Nat) (v : Value), (#[.int .i64 c2.pc, .int .i64 c2.tp, .int .i64 (c2.r 0), .int .i64 (c2.r 1), .int .i64 (c2.r 2), .int .i64 (c2.r 3), .int .i64 (c2.r 4), .int .i64 (c2.r 5), .int .i64 (c2.r 6), .int .i64 (c2.r 7), .int .i64 (c2.r 8), .int .i64 (c2.r 9), .int .i64 (c2.r 10), .int .i64 (c2.r 11), .int .i64 (c2.r 12), .int .i64 (c2.r 13), .int .i64 (c2.r 14), .int .i64 (c2.r 15)] : Array Value).toList[j]? = some v → X.cell? ⟨g, 0 + j, none⟩ = some v) ∧ ∀ (j : Nat) (v : Value), (#[.int .i64 e2.k, .int .i64 e2.n, .int .i64 e2.a, .int .i64 e2.b, .int .i64 e2.f] : Array Value).toList[j]? = some v → X.cell? ⟨g, 19 + j, none⟩ = some v) (X.setRow b1 #[.int .i64 c2.pc, .int .i64 c2.tp, .int .i64 (c2.r 0), .int .i64 (c2.r 1), .int .i64 (c2.r 2), .int .i64 (c2.r 3), .int .i64 (c2.r 4), .int .i64 (c2.r 5), .int .i64 (c2.r 6), .int .i64 (c2.r 7), .int .i64 (c2.r 8), .int .i64 (c2.r 9), .int .i64 (c2.r 10), .int .i64 (c2.r 11), .int .i64 (c2.r 12), .int .i64 (c2.r 13), .int .i64 (c2.r 14), .int .i64 (c2.r 15)])) := Lib.hid (fun X h => ⟨fun j v hv => (World.cell?_of_block (a := ⟨g, 0 + j, none⟩) (setRow_other _ _ _ _ NE.out.1)).trans (h.1 j v hv), fun j v hv => (World.cell?_of_block (a := ⟨g, 19 + j, none⟩) (setRow_other _ _ _ _ NE.out.1)).trans (h.2 j v hv)⟩)
          have HSK9 : Hid (∀ X : World, (fun X => (∀ (j : Nat) (v : Value), (#[.int .i64 c2.pc, .int .i64 c2.tp, .int .i64 (c2.r 0), .int .i64 (c2.r 1), .int .i64 (c2.r 2), .int .i64 (c2.r 3), .int .i64 (c2.r 4), .int .i64 (c2.r 5), .int .i64 (c2.r 6), .int .i64 (c2.r 7), .int .i64 (c2.r 8), .int .i64 (c2.r 9), .int .i64 (c2.r 10), .int .i64 (c2.r 11), .int .i64 (c2.r 12), .int .i64 (c2.r 13), .int .i64 (c2.r 14), .int .i64 (c2.r 15)] : Array Value).toList[j]? = some v → X.cell? ⟨g, 0 + j, none⟩ = some v) ∧ ∀ (j : Nat) (v : Value), (#[.int .i64 e2.k, .int .i64 e2.n, .int .i64 e2.a, .int .i64 e2.b, .int .i64 e2.f] : Array Value).toList[j]? = some v → X.cell? ⟨g, 19 + j, none⟩ = some v) X → (fun X => (∀ (j : Nat) (v : Value), (#[.int .i64 c2.pc, .int .i64 c2.tp, .int .i64 (c2.r 0), .int .i64 (c2.r 1), .int .i64 (c2.r 2), .int .i64 (c2.r 3), .int .i64 (c2.r 4), .int .i64 (c2.r 5), .int .i64 (c2.r 6), .int .i64 (c2.r 7), .int .i64 (c2.r 8), .int .i64 (c2.r 9), .int .i64 (c2.r 10), .int .i64 (c2.r 11), .int .i64 (c2.r 12), .int .i64 (c2.r 13), .int .i64 (c2.r 14), .int .i64 (c2.r 15)] : Array Value).toList[j]? = some v → X.cell? ⟨g, 0 + j, none⟩ = some v) ∧ ∀ (j : Nat) (v : Value), (#[.int .i64 e2.k, .int .i64 e2.n, .int .i64 e2.a, .int .i64 e2.b, .int .i64 e2.f] : Array Value).toList[j]? = some v → X.cell? ⟨g, 19 + j, none⟩ = some v) (X.setRow b2 #[.int .i64 e2.k, .int .i64 e2.n, .int .i64 e2.a, .int .i64 e2.b, .int .i64 e2.f])) := Lib.hid (fun X h => ⟨fun j v hv => (World.cell?_of_block (a := ⟨g, 0 + j, none⟩) (setRow_other _ _ _ _ NE.out.2)).trans (h.1 j v hv), fun j v hv => (World.cell?_of_block (a := ⟨g, 19 + j, none⟩) (setRow_other _ _ _ _ NE.out.2)).trans (h.2 j v hv)⟩)
          have FA := Lib.hid ((N0.out.swap.setrow #[.int .i64 c2.pc, .int .i64 c2.tp, .int .i64 (c2.r 0), .int .i64 (c2.r 1), .int .i64 (c2.r 2), .int .i64 (c2.r 3), .int .i64 (c2.r 4), .int .i64 (c2.r 5), .int .i64 (c2.r 6), .int .i64 (c2.r 7), .int .i64 (c2.r 8), .int .i64 (c2.r 9), .int .i64 (c2.r 10), .int .i64 (c2.r 11), .int .i64 (c2.r 12), .int .i64 (c2.r 13), .int .i64 (c2.r 14), .int .i64 (c2.r 15)]).swap.setrow #[.int .i64 e2.k, .int .i64 e2.n, .int .i64 e2.a, .int .i64 e2.b, .int .i64 e2.f])
          have HS0 : (fun X => (∀ (j : Nat) (v : Value), (#[.int .i64 c2.pc, .int .i64 c2.tp, .int .i64 (c2.r 0), .int .i64 (c2.r 1), .int .i64 (c2.r 2), .int .i64 (c2.r 3), .int .i64 (c2.r 4), .int .i64 (c2.r 5), .int .i64 (c2.r 6), .int .i64 (c2.r 7), .int .i64 (c2.r 8), .int .i64 (c2.r 9), .int .i64 (c2.r 10), .int .i64 (c2.r 11), .int .i64 (c2.r 12), .int .i64 (c2.r 13), .int .i64 (c2.r 14), .int .i64 (c2.r 15)] : Array Value).toList[j]? = some v → X.cell? ⟨g, 0 + j, none⟩ = some v) ∧ ∀ (j : Nat) (v : Value), (#[.int .i64 e2.k, .int .i64 e2.n, .int .i64 e2.a, .int .i64 e2.b, .int .i64 e2.f] : Array Value).toList[j]? = some v → X.cell? ⟨g, 19 + j, none⟩ = some v) w6.drew := ⟨fun j v hv => by rw [(Has.mblk N0.out.r4).cell]; exact mc_ctx (c2) _ _ j v hv, fun j v hv => by rw [(Has.mblk N0.out.r4).cell]; exact mc_evt _ _ (e2) j v hv⟩
          refine wp_region_noPanic ?_
          refine wp_region_held_drew (S := fun X => (∀ (j : Nat) (v : Value), (#[.int .i64 c2.pc, .int .i64 c2.tp, .int .i64 (c2.r 0), .int .i64 (c2.r 1), .int .i64 (c2.r 2), .int .i64 (c2.r 3), .int .i64 (c2.r 4), .int .i64 (c2.r 5), .int .i64 (c2.r 6), .int .i64 (c2.r 7), .int .i64 (c2.r 8), .int .i64 (c2.r 9), .int .i64 (c2.r 10), .int .i64 (c2.r 11), .int .i64 (c2.r 12), .int .i64 (c2.r 13), .int .i64 (c2.r 14), .int .i64 (c2.r 15)] : Array Value).toList[j]? = some v → X.cell? ⟨g, 0 + j, none⟩ = some v) ∧ ∀ (j : Nat) (v : Value), (#[.int .i64 e2.k, .int .i64 e2.n, .int .i64 e2.a, .int .i64 e2.b, .int .i64 e2.f] : Array Value).toList[j]? = some v → X.cell? ⟨g, 19 + j, none⟩ = some v) (by kernel_rfl) HS0 ?_
          clear HS0
          intro hS
          refine wpAnyH_take (i := 0) (v := .pointer (some ⟨g, 0, none⟩)) rfl (by kernel_rfl) (by kernel_rfl) (by kernel_rfl) (fun _ _ _ h => h) (yields_pure rfl (fun w => by kernel_rfl)) hS ?_
          refine wpAnyH_take (i := 1) (v := .pointer (some ⟨g, 0, none⟩)) rfl (by kernel_rfl) (by kernel_rfl) (by kernel_rfl) (fun _ _ _ h => h) (yields_pure rfl (fun w => by kernel_rfl)) hS ?_
          refine wpAnyH_take (i := 2) (v := .pointer (some ⟨g, 0, none⟩)) rfl (by kernel_rfl) (by kernel_rfl) (by kernel_rfl) (fun _ _ _ h => h) (yields_pure rfl (fun w => by kernel_rfl)) hS ?_
          refine wpAnyH_take (i := 3) rfl (by kernel_rfl) (by kernel_rfl) (by kernel_rfl) (fun _ _ _ h => h) (yields_load_part rfl 37 _ rfl g 0 (by kernel_rfl) #[.int .i64 c2.pc, .int .i64 c2.tp, .int .i64 (c2.r 0), .int .i64 (c2.r 1), .int .i64 (c2.r 2), .int .i64 (c2.r 3), .int .i64 (c2.r 4), .int .i64 (c2.r 5), .int .i64 (c2.r 6), .int .i64 (c2.r 7), .int .i64 (c2.r 8), .int .i64 (c2.r 9), .int .i64 (c2.r 10), .int .i64 (c2.r 11), .int .i64 (c2.r 12), .int .i64 (c2.r 13), .int .i64 (c2.r 14), .int .i64 (c2.r 15)] _ (fun w h => h.1) Try.underlying37 rfl (by kernel_rfl)) hS ?_
          refine wpAnyH_take (i := 4) (v := .pointer (some ⟨g, 0, none⟩)) rfl (by kernel_rfl) (by kernel_rfl) (by kernel_rfl) (fun _ _ _ h => h) (yields_pure rfl (fun w => by kernel_rfl)) hS ?_
          refine wpAnyH_take (i := 5) (v := .pointer (some ⟨g, 0, none⟩)) rfl (by kernel_rfl) (by kernel_rfl) (by kernel_rfl) (fun _ _ _ h => h) (yields_pure rfl (fun w => by kernel_rfl)) hS ?_
          refine wpAnyH_take (i := 6) (v := .pointer (some ⟨g, 19, none⟩)) rfl (by kernel_rfl) (by kernel_rfl) (by kernel_rfl) (fun _ _ _ h => h) (yields_pure rfl (fun w => by kernel_rfl)) hS ?_
          refine wpAnyH_take (i := 7) rfl (by kernel_rfl) (by kernel_rfl) (by kernel_rfl) (fun _ _ _ h => h) (yields_load_part rfl 40 _ rfl g 19 (by kernel_rfl) #[.int .i64 e2.k, .int .i64 e2.n, .int .i64 e2.a, .int .i64 e2.b, .int .i64 e2.f] _ (fun w h => h.2) Try.underlying40 rfl (by kernel_rfl)) hS ?_
          refine wpAnyH_all (rs := [8]) (by kernel_rfl) (by simp) ?_
          intro i hi
          obtain rfl : i = 8 := by simpa using hi
          refine wpOp_store_row rfl rfl 37 _ _ rfl b1 #[.int .i64 c2.pc, .int .i64 c2.tp, .int .i64 (c2.r 0), .int .i64 (c2.r 1), .int .i64 (c2.r 2), .int .i64 (c2.r 3), .int .i64 (c2.r 4), .int .i64 (c2.r 5), .int .i64 (c2.r 6), .int .i64 (c2.r 7), .int .i64 (c2.r 8), .int .i64 (c2.r 9), .int .i64 (c2.r 10), .int .i64 (c2.r 11), .int .i64 (c2.r 12), .int .i64 (c2.r 13), .int .i64 (c2.r 14), .int .i64 (c2.r 15)] (by kernel_rfl) (by kernel_rfl) 37 #[.int .i64 0, .int .i64 0, .int .i64 0, .int .i64 0, .int .i64 0, .int .i64 0, .int .i64 0, .int .i64 0, .int .i64 0, .int .i64 0, .int .i64 0, .int .i64 0, .int .i64 0, .int .i64 0, .int .i64 0, .int .i64 0, .int .i64 0, .int .i64 0] (N0.out.swap.cel) (by kernel_rfl) rfl (by kernel_rfl) ?_
          refine ⟨HSK8.out _ hS, ?_⟩
          refine wpAnyH_all (rs := [9]) (by kernel_rfl) (by simp) ?_
          intro i hi
          obtain rfl : i = 9 := by simpa using hi
          refine wpOp_store_row rfl rfl 40 _ _ rfl b2 #[.int .i64 e2.k, .int .i64 e2.n, .int .i64 e2.a, .int .i64 e2.b, .int .i64 e2.f] (by kernel_rfl) (by kernel_rfl) 40 #[.int .i64 0, .int .i64 0, .int .i64 0, .int .i64 0, .int .i64 0] ((N0.out.swap.setrow #[.int .i64 c2.pc, .int .i64 c2.tp, .int .i64 (c2.r 0), .int .i64 (c2.r 1), .int .i64 (c2.r 2), .int .i64 (c2.r 3), .int .i64 (c2.r 4), .int .i64 (c2.r 5), .int .i64 (c2.r 6), .int .i64 (c2.r 7), .int .i64 (c2.r 8), .int .i64 (c2.r 9), .int .i64 (c2.r 10), .int .i64 (c2.r 11), .int .i64 (c2.r 12), .int .i64 (c2.r 13), .int .i64 (c2.r 14), .int .i64 (c2.r 15)]).swap.cel) (by kernel_rfl) rfl (by kernel_rfl) ?_
          refine ⟨HSK9.out _ (HSK8.out _ hS), ?_⟩
          refine wpAnyH_done (by kernel_rfl) ?_ _
          refine NoPanic.normal ?_
          go_wp2
          try simp only [Exit.inBlock, Exit.then]
          refine bodyPost_ret (results_cell2_row (p := 4) (u := 5) (ty := 37) (uy := 40) rfl _ _ b1 b2 37 40 #[.int .i64 c2.pc, .int .i64 c2.tp, .int .i64 (c2.r 0), .int .i64 (c2.r 1), .int .i64 (c2.r 2), .int .i64 (c2.r 3), .int .i64 (c2.r 4), .int .i64 (c2.r 5), .int .i64 (c2.r 6), .int .i64 (c2.r 7), .int .i64 (c2.r 8), .int .i64 (c2.r 9), .int .i64 (c2.r 10), .int .i64 (c2.r 11), .int .i64 (c2.r 12), .int .i64 (c2.r 13), .int .i64 (c2.r 14), .int .i64 (c2.r 15)] #[.int .i64 e2.k, .int .i64 e2.n, .int .i64 e2.a, .int .i64 e2.b, .int .i64 e2.f] _ _ rfl FA.out.swap.cel Try.underlying37 rfl (by kernel_rfl) rfl FA.out.cel Try.underlying40 rfl (by kernel_rfl)) rfl ?_
          exact ⟨by rw [HE.out]; rfl, by rw [HE.out]; exact FA.out.right.right.right.right⟩
      · have hi : mayS (insK bs 0) = false := by
          cases hq : mayS (insK bs 0) with
          | false => rfl
          | true => exact absurd ⟨by rw [h8], fun k hk => by rw [h8] at hk; have hk0 : k = 0 := (by omega); subst hk0; exact hq⟩ hno
        have HE : Hid (R = (⟨pc, tp, r⟩, trapV 40, L)) := Lib.hid (by
          rw [← HR.out]; unfold stepS
          rw [if_neg hp0]
          simp only
          rw [HG.out.2, HG.out.1, if_neg (by simp), if_pos hi])
        have C5 := Lib.hid (trap_any (M3.out.stay hb4) 40)
        clear hno hi hb4 M3
        go_wp2_with fail
        refine (C5.out).mono ?_
        rintro e w5 ⟨rfl, m5⟩
        rw [if_neg (by decide)] at m5
        have M5 := Lib.hid m5; clear m5 C5
        go_wp2_with fail
        have N0 := Lib.hid (M5.out.stay below_drw).swap.right.r5.r5.r5
        clear M5
        have NE : Hid (b0 ≠ b1 ∧ g ≠ b1 ∧ b0 ≠ b2 ∧ g ≠ b2) := Lib.hid ⟨N0.out.right.swap.ne, N0.out.right.r3.ne, N0.out.r3.ne, N0.out.r4.ne⟩
        have HSK5 : Hid (∀ X : World, (fun X => X.heap[b0]? = some (.cells #[.int .i64 pc, .int .i64 tp, .int .i64 (r 0), .int .i64 (r 1), .int .i64 (r 2), .int .i64 (r 3), .int .i64 (r 4), .int .i64 (r 5), .int .i64 (r 6), .int .i64 (r 7), .int .i64 (r 8), .int .i64 (r 9), .int .i64 (r 10), .int .i64 (r 11), .int .i64 (r 12), .int .i64 (r 13), .int .i64 (r 14), .int .i64 (r 15)] 37 (0, 0)) ∧ ∀ (j : Nat) (v : Value), (#[.int .i64 5, .int .i64 0, .int .i64 0, .int .i64 0, .int .i64 40] : Array Value).toList[j]? = some v → X.cell? ⟨g, 19 + j, none⟩ = some v) X → (fun X => X.heap[b0]? = some (.cells #[.int .i64 pc, .int .i64 tp, .int .i64 (r 0), .int .i64 (r 1), .int .i64 (r 2), .int .i64 (r 3), .int .i64 (r 4), .int .i64 (r 5), .int .i64 (r 6), .int .i64 (r 7), .int .i64 (r 8), .int .i64 (r 9), .int .i64 (r 10), .int .i64 (r 11), .int .i64 (r 12), .int .i64 (r 13), .int .i64 (r 14), .int .i64 (r 15)] 37 (0, 0)) ∧ ∀ (j : Nat) (v : Value), (#[.int .i64 5, .int .i64 0, .int .i64 0, .int .i64 0, .int .i64 40] : Array Value).toList[j]? = some v → X.cell? ⟨g, 19 + j, none⟩ = some v) (X.setRow b1 #[.int .i64 pc, .int .i64 tp, .int .i64 (r 0), .int .i64 (r 1), .int .i64 (r 2), .int .i64 (r 3), .int .i64 (r 4), .int .i64 (r 5), .int .i64 (r 6), .int .i64 (r 7), .int .i64 (r 8), .int .i64 (r 9), .int .i64 (r 10), .int .i64 (r 11), .int .i64 (r 12), .int .i64 (r 13), .int .i64 (r 14), .int .i64 (r 15)])) := Lib.hid (fun X h => ⟨(setRow_other _ _ _ _ NE.out.1).trans h.1, fun j v hv => (World.cell?_of_block (a := ⟨g, 19 + j, none⟩) (setRow_other _ _ _ _ NE.out.2.1)).trans (h.2 j v hv)⟩)
        have HSK6 : Hid (∀ X : World, (fun X => X.heap[b0]? = some (.cells #[.int .i64 pc, .int .i64 tp, .int .i64 (r 0), .int .i64 (r 1), .int .i64 (r 2), .int .i64 (r 3), .int .i64 (r 4), .int .i64 (r 5), .int .i64 (r 6), .int .i64 (r 7), .int .i64 (r 8), .int .i64 (r 9), .int .i64 (r 10), .int .i64 (r 11), .int .i64 (r 12), .int .i64 (r 13), .int .i64 (r 14), .int .i64 (r 15)] 37 (0, 0)) ∧ ∀ (j : Nat) (v : Value), (#[.int .i64 5, .int .i64 0, .int .i64 0, .int .i64 0, .int .i64 40] : Array Value).toList[j]? = some v → X.cell? ⟨g, 19 + j, none⟩ = some v) X → (fun X => X.heap[b0]? = some (.cells #[.int .i64 pc, .int .i64 tp, .int .i64 (r 0), .int .i64 (r 1), .int .i64 (r 2), .int .i64 (r 3), .int .i64 (r 4), .int .i64 (r 5), .int .i64 (r 6), .int .i64 (r 7), .int .i64 (r 8), .int .i64 (r 9), .int .i64 (r 10), .int .i64 (r 11), .int .i64 (r 12), .int .i64 (r 13), .int .i64 (r 14), .int .i64 (r 15)] 37 (0, 0)) ∧ ∀ (j : Nat) (v : Value), (#[.int .i64 5, .int .i64 0, .int .i64 0, .int .i64 0, .int .i64 40] : Array Value).toList[j]? = some v → X.cell? ⟨g, 19 + j, none⟩ = some v) (X.setRow b2 #[.int .i64 5, .int .i64 0, .int .i64 0, .int .i64 0, .int .i64 40])) := Lib.hid (fun X h => ⟨(setRow_other _ _ _ _ NE.out.2.2.1).trans h.1, fun j v hv => (World.cell?_of_block (a := ⟨g, 19 + j, none⟩) (setRow_other _ _ _ _ NE.out.2.2.2)).trans (h.2 j v hv)⟩)
        have FA := Lib.hid ((N0.out.swap.setrow #[.int .i64 pc, .int .i64 tp, .int .i64 (r 0), .int .i64 (r 1), .int .i64 (r 2), .int .i64 (r 3), .int .i64 (r 4), .int .i64 (r 5), .int .i64 (r 6), .int .i64 (r 7), .int .i64 (r 8), .int .i64 (r 9), .int .i64 (r 10), .int .i64 (r 11), .int .i64 (r 12), .int .i64 (r 13), .int .i64 (r 14), .int .i64 (r 15)]).swap.setrow #[.int .i64 5, .int .i64 0, .int .i64 0, .int .i64 0, .int .i64 40])
        have HS0 : (fun X => X.heap[b0]? = some (.cells #[.int .i64 pc, .int .i64 tp, .int .i64 (r 0), .int .i64 (r 1), .int .i64 (r 2), .int .i64 (r 3), .int .i64 (r 4), .int .i64 (r 5), .int .i64 (r 6), .int .i64 (r 7), .int .i64 (r 8), .int .i64 (r 9), .int .i64 (r 10), .int .i64 (r 11), .int .i64 (r 12), .int .i64 (r 13), .int .i64 (r 14), .int .i64 (r 15)] 37 (0, 0)) ∧ ∀ (j : Nat) (v : Value), (#[.int .i64 5, .int .i64 0, .int .i64 0, .int .i64 0, .int .i64 40] : Array Value).toList[j]? = some v → X.cell? ⟨g, 19 + j, none⟩ = some v) w5.drew := ⟨N0.out.r3.cel, fun j v hv => by rw [(Has.mblk N0.out.r4).cell]; exact mc_evt _ _ (trapV 40) j v hv⟩
        refine wp_region_noPanic ?_
        refine wp_region_held_drew (S := fun X => X.heap[b0]? = some (.cells #[.int .i64 pc, .int .i64 tp, .int .i64 (r 0), .int .i64 (r 1), .int .i64 (r 2), .int .i64 (r 3), .int .i64 (r 4), .int .i64 (r 5), .int .i64 (r 6), .int .i64 (r 7), .int .i64 (r 8), .int .i64 (r 9), .int .i64 (r 10), .int .i64 (r 11), .int .i64 (r 12), .int .i64 (r 13), .int .i64 (r 14), .int .i64 (r 15)] 37 (0, 0)) ∧ ∀ (j : Nat) (v : Value), (#[.int .i64 5, .int .i64 0, .int .i64 0, .int .i64 0, .int .i64 40] : Array Value).toList[j]? = some v → X.cell? ⟨g, 19 + j, none⟩ = some v) (by kernel_rfl) HS0 ?_
        clear HS0
        intro hS
        refine wpAnyH_take (i := 0) rfl (by kernel_rfl) (by kernel_rfl) (by kernel_rfl) (fun _ _ _ h => h) (yields_load_row rfl 37 _ rfl b0 (by kernel_rfl) 37 #[.int .i64 pc, .int .i64 tp, .int .i64 (r 0), .int .i64 (r 1), .int .i64 (r 2), .int .i64 (r 3), .int .i64 (r 4), .int .i64 (r 5), .int .i64 (r 6), .int .i64 (r 7), .int .i64 (r 8), .int .i64 (r 9), .int .i64 (r 10), .int .i64 (r 11), .int .i64 (r 12), .int .i64 (r 13), .int .i64 (r 14), .int .i64 (r 15)] _ (fun w h => h.1) Try.underlying37 rfl (by kernel_rfl)) hS ?_
        refine wpAnyH_take (i := 1) (v := .pointer (some ⟨g, 0, none⟩)) rfl (by kernel_rfl) (by kernel_rfl) (by kernel_rfl) (fun _ _ _ h => h) (yields_pure rfl (fun w => by kernel_rfl)) hS ?_
        refine wpAnyH_take (i := 2) (v := .pointer (some ⟨g, 0, none⟩)) rfl (by kernel_rfl) (by kernel_rfl) (by kernel_rfl) (fun _ _ _ h => h) (yields_pure rfl (fun w => by kernel_rfl)) hS ?_
        refine wpAnyH_take (i := 3) (v := .pointer (some ⟨g, 19, none⟩)) rfl (by kernel_rfl) (by kernel_rfl) (by kernel_rfl) (fun _ _ _ h => h) (yields_pure rfl (fun w => by kernel_rfl)) hS ?_
        refine wpAnyH_take (i := 4) rfl (by kernel_rfl) (by kernel_rfl) (by kernel_rfl) (fun _ _ _ h => h) (yields_load_part rfl 40 _ rfl g 19 (by kernel_rfl) #[.int .i64 5, .int .i64 0, .int .i64 0, .int .i64 0, .int .i64 40] _ (fun w h => h.2) Try.underlying40 rfl (by kernel_rfl)) hS ?_
        refine wpAnyH_all (rs := [5]) (by kernel_rfl) (by simp) ?_
        intro i hi
        obtain rfl : i = 5 := by simpa using hi
        refine wpOp_store_row rfl rfl 37 _ _ rfl b1 #[.int .i64 pc, .int .i64 tp, .int .i64 (r 0), .int .i64 (r 1), .int .i64 (r 2), .int .i64 (r 3), .int .i64 (r 4), .int .i64 (r 5), .int .i64 (r 6), .int .i64 (r 7), .int .i64 (r 8), .int .i64 (r 9), .int .i64 (r 10), .int .i64 (r 11), .int .i64 (r 12), .int .i64 (r 13), .int .i64 (r 14), .int .i64 (r 15)] (by kernel_rfl) (by kernel_rfl) 37 #[.int .i64 0, .int .i64 0, .int .i64 0, .int .i64 0, .int .i64 0, .int .i64 0, .int .i64 0, .int .i64 0, .int .i64 0, .int .i64 0, .int .i64 0, .int .i64 0, .int .i64 0, .int .i64 0, .int .i64 0, .int .i64 0, .int .i64 0, .int .i64 0] (N0.out.swap.cel) (by kernel_rfl) rfl (by kernel_rfl) ?_
        refine ⟨HSK5.out _ hS, ?_⟩
        refine wpAnyH_all (rs := [6]) (by kernel_rfl) (by simp) ?_
        intro i hi
        obtain rfl : i = 6 := by simpa using hi
        refine wpOp_store_row rfl rfl 40 _ _ rfl b2 #[.int .i64 5, .int .i64 0, .int .i64 0, .int .i64 0, .int .i64 40] (by kernel_rfl) (by kernel_rfl) 40 #[.int .i64 0, .int .i64 0, .int .i64 0, .int .i64 0, .int .i64 0] ((N0.out.swap.setrow #[.int .i64 pc, .int .i64 tp, .int .i64 (r 0), .int .i64 (r 1), .int .i64 (r 2), .int .i64 (r 3), .int .i64 (r 4), .int .i64 (r 5), .int .i64 (r 6), .int .i64 (r 7), .int .i64 (r 8), .int .i64 (r 9), .int .i64 (r 10), .int .i64 (r 11), .int .i64 (r 12), .int .i64 (r 13), .int .i64 (r 14), .int .i64 (r 15)]).swap.cel) (by kernel_rfl) rfl (by kernel_rfl) ?_
        refine ⟨HSK6.out _ (HSK5.out _ hS), ?_⟩
        refine wpAnyH_done (by kernel_rfl) ?_ _
        refine NoPanic.normal ?_
        go_wp2
        try simp only [Exit.inBlock, Exit.then]
        refine bodyPost_ret (results_cell2_row (p := 4) (u := 5) (ty := 37) (uy := 40) rfl _ _ b1 b2 37 40 #[.int .i64 pc, .int .i64 tp, .int .i64 (r 0), .int .i64 (r 1), .int .i64 (r 2), .int .i64 (r 3), .int .i64 (r 4), .int .i64 (r 5), .int .i64 (r 6), .int .i64 (r 7), .int .i64 (r 8), .int .i64 (r 9), .int .i64 (r 10), .int .i64 (r 11), .int .i64 (r 12), .int .i64 (r 13), .int .i64 (r 14), .int .i64 (r 15)] #[.int .i64 5, .int .i64 0, .int .i64 0, .int .i64 0, .int .i64 40] _ _ rfl FA.out.swap.cel Try.underlying37 rfl (by kernel_rfl) rfl FA.out.cel Try.underlying40 rfl (by kernel_rfl)) rfl ?_
        exact ⟨by rw [HE.out]; rfl, by rw [HE.out]; exact FA.out.right.right.right.right⟩
    · have HE : Hid (R = (⟨pc, tp, r⟩, trapV E, L)) := Lib.hid (by
        rw [← HR.out]; unfold stepS
        rw [if_neg hp0]
        simp only
        rw [HG.out.2, if_pos hE0])
      have hbn : (E != 0) = true := bne_iff_ne.2 hE0
      go_wp2_with fail
      refine (C3.out).mono ?_
      rintro e w3 ⟨rfl, m3⟩
      rw [if_neg hE0] at m3
      have M3 := Lib.hid m3; clear m3 C3 M2
      rw [hbn]
      go_wp2_with fail
      have N0 := Lib.hid (M3.out.stay below_drw).swap.right.r5.r5.r5
      clear M3
      have NE : Hid (b0 ≠ b1 ∧ g ≠ b1 ∧ b0 ≠ b2 ∧ g ≠ b2) := Lib.hid ⟨N0.out.right.swap.ne, N0.out.right.r3.ne, N0.out.r3.ne, N0.out.r4.ne⟩
      have HSK5 : Hid (∀ X : World, (fun X => X.heap[b0]? = some (.cells #[.int .i64 pc, .int .i64 tp, .int .i64 (r 0), .int .i64 (r 1), .int .i64 (r 2), .int .i64 (r 3), .int .i64 (r 4), .int .i64 (r 5), .int .i64 (r 6), .int .i64 (r 7), .int .i64 (r 8), .int .i64 (r 9), .int .i64 (r 10), .int .i64 (r 11), .int .i64 (r 12), .int .i64 (r 13), .int .i64 (r 14), .int .i64 (r 15)] 37 (0, 0)) ∧ ∀ (j : Nat) (v : Value), (#[.int .i64 5, .int .i64 0, .int .i64 0, .int .i64 0, .int .i64 E] : Array Value).toList[j]? = some v → X.cell? ⟨g, 19 + j, none⟩ = some v) X → (fun X => X.heap[b0]? = some (.cells #[.int .i64 pc, .int .i64 tp, .int .i64 (r 0), .int .i64 (r 1), .int .i64 (r 2), .int .i64 (r 3), .int .i64 (r 4), .int .i64 (r 5), .int .i64 (r 6), .int .i64 (r 7), .int .i64 (r 8), .int .i64 (r 9), .int .i64 (r 10), .int .i64 (r 11), .int .i64 (r 12), .int .i64 (r 13), .int .i64 (r 14), .int .i64 (r 15)] 37 (0, 0)) ∧ ∀ (j : Nat) (v : Value), (#[.int .i64 5, .int .i64 0, .int .i64 0, .int .i64 0, .int .i64 E] : Array Value).toList[j]? = some v → X.cell? ⟨g, 19 + j, none⟩ = some v) (X.setRow b1 #[.int .i64 pc, .int .i64 tp, .int .i64 (r 0), .int .i64 (r 1), .int .i64 (r 2), .int .i64 (r 3), .int .i64 (r 4), .int .i64 (r 5), .int .i64 (r 6), .int .i64 (r 7), .int .i64 (r 8), .int .i64 (r 9), .int .i64 (r 10), .int .i64 (r 11), .int .i64 (r 12), .int .i64 (r 13), .int .i64 (r 14), .int .i64 (r 15)])) := Lib.hid (fun X h => ⟨(setRow_other _ _ _ _ NE.out.1).trans h.1, fun j v hv => (World.cell?_of_block (a := ⟨g, 19 + j, none⟩) (setRow_other _ _ _ _ NE.out.2.1)).trans (h.2 j v hv)⟩)
      have HSK6 : Hid (∀ X : World, (fun X => X.heap[b0]? = some (.cells #[.int .i64 pc, .int .i64 tp, .int .i64 (r 0), .int .i64 (r 1), .int .i64 (r 2), .int .i64 (r 3), .int .i64 (r 4), .int .i64 (r 5), .int .i64 (r 6), .int .i64 (r 7), .int .i64 (r 8), .int .i64 (r 9), .int .i64 (r 10), .int .i64 (r 11), .int .i64 (r 12), .int .i64 (r 13), .int .i64 (r 14), .int .i64 (r 15)] 37 (0, 0)) ∧ ∀ (j : Nat) (v : Value), (#[.int .i64 5, .int .i64 0, .int .i64 0, .int .i64 0, .int .i64 E] : Array Value).toList[j]? = some v → X.cell? ⟨g, 19 + j, none⟩ = some v) X → (fun X => X.heap[b0]? = some (.cells #[.int .i64 pc, .int .i64 tp, .int .i64 (r 0), .int .i64 (r 1), .int .i64 (r 2), .int .i64 (r 3), .int .i64 (r 4), .int .i64 (r 5), .int .i64 (r 6), .int .i64 (r 7), .int .i64 (r 8), .int .i64 (r 9), .int .i64 (r 10), .int .i64 (r 11), .int .i64 (r 12), .int .i64 (r 13), .int .i64 (r 14), .int .i64 (r 15)] 37 (0, 0)) ∧ ∀ (j : Nat) (v : Value), (#[.int .i64 5, .int .i64 0, .int .i64 0, .int .i64 0, .int .i64 E] : Array Value).toList[j]? = some v → X.cell? ⟨g, 19 + j, none⟩ = some v) (X.setRow b2 #[.int .i64 5, .int .i64 0, .int .i64 0, .int .i64 0, .int .i64 E])) := Lib.hid (fun X h => ⟨(setRow_other _ _ _ _ NE.out.2.2.1).trans h.1, fun j v hv => (World.cell?_of_block (a := ⟨g, 19 + j, none⟩) (setRow_other _ _ _ _ NE.out.2.2.2)).trans (h.2 j v hv)⟩)
      have FA := Lib.hid ((N0.out.swap.setrow #[.int .i64 pc, .int .i64 tp, .int .i64 (r 0), .int .i64 (r 1), .int .i64 (r 2), .int .i64 (r 3), .int .i64 (r 4), .int .i64 (r 5), .int .i64 (r 6), .int .i64 (r 7), .int .i64 (r 8), .int .i64 (r 9), .int .i64 (r 10), .int .i64 (r 11), .int .i64 (r 12), .int .i64 (r 13), .int .i64 (r 14), .int .i64 (r 15)]).swap.setrow #[.int .i64 5, .int .i64 0, .int .i64 0, .int .i64 0, .int .i64 E])
      have HS0 : (fun X => X.heap[b0]? = some (.cells #[.int .i64 pc, .int .i64 tp, .int .i64 (r 0), .int .i64 (r 1), .int .i64 (r 2), .int .i64 (r 3), .int .i64 (r 4), .int .i64 (r 5), .int .i64 (r 6), .int .i64 (r 7), .int .i64 (r 8), .int .i64 (r 9), .int .i64 (r 10), .int .i64 (r 11), .int .i64 (r 12), .int .i64 (r 13), .int .i64 (r 14), .int .i64 (r 15)] 37 (0, 0)) ∧ ∀ (j : Nat) (v : Value), (#[.int .i64 5, .int .i64 0, .int .i64 0, .int .i64 0, .int .i64 E] : Array Value).toList[j]? = some v → X.cell? ⟨g, 19 + j, none⟩ = some v) w3.drew := ⟨N0.out.r3.cel, fun j v hv => by rw [(Has.mblk N0.out.r4).cell]; exact mc_evt _ _ (trapV E) j v hv⟩
      refine wp_region_noPanic ?_
      refine wp_region_held_drew (S := fun X => X.heap[b0]? = some (.cells #[.int .i64 pc, .int .i64 tp, .int .i64 (r 0), .int .i64 (r 1), .int .i64 (r 2), .int .i64 (r 3), .int .i64 (r 4), .int .i64 (r 5), .int .i64 (r 6), .int .i64 (r 7), .int .i64 (r 8), .int .i64 (r 9), .int .i64 (r 10), .int .i64 (r 11), .int .i64 (r 12), .int .i64 (r 13), .int .i64 (r 14), .int .i64 (r 15)] 37 (0, 0)) ∧ ∀ (j : Nat) (v : Value), (#[.int .i64 5, .int .i64 0, .int .i64 0, .int .i64 0, .int .i64 E] : Array Value).toList[j]? = some v → X.cell? ⟨g, 19 + j, none⟩ = some v) (by kernel_rfl) HS0 ?_
      clear HS0
      intro hS
      refine wpAnyH_take (i := 0) rfl (by kernel_rfl) (by kernel_rfl) (by kernel_rfl) (fun _ _ _ h => h) (yields_load_row rfl 37 _ rfl b0 (by kernel_rfl) 37 #[.int .i64 pc, .int .i64 tp, .int .i64 (r 0), .int .i64 (r 1), .int .i64 (r 2), .int .i64 (r 3), .int .i64 (r 4), .int .i64 (r 5), .int .i64 (r 6), .int .i64 (r 7), .int .i64 (r 8), .int .i64 (r 9), .int .i64 (r 10), .int .i64 (r 11), .int .i64 (r 12), .int .i64 (r 13), .int .i64 (r 14), .int .i64 (r 15)] _ (fun w h => h.1) Try.underlying37 rfl (by kernel_rfl)) hS ?_
      refine wpAnyH_take (i := 1) (v := .pointer (some ⟨g, 0, none⟩)) rfl (by kernel_rfl) (by kernel_rfl) (by kernel_rfl) (fun _ _ _ h => h) (yields_pure rfl (fun w => by kernel_rfl)) hS ?_
      refine wpAnyH_take (i := 2) (v := .pointer (some ⟨g, 0, none⟩)) rfl (by kernel_rfl) (by kernel_rfl) (by kernel_rfl) (fun _ _ _ h => h) (yields_pure rfl (fun w => by kernel_rfl)) hS ?_
      refine wpAnyH_take (i := 3) (v := .pointer (some ⟨g, 19, none⟩)) rfl (by kernel_rfl) (by kernel_rfl) (by kernel_rfl) (fun _ _ _ h => h) (yields_pure rfl (fun w => by kernel_rfl)) hS ?_
      refine wpAnyH_take (i := 4) rfl (by kernel_rfl) (by kernel_rfl) (by kernel_rfl) (fun _ _ _ h => h) (yields_load_part rfl 40 _ rfl g 19 (by kernel_rfl) #[.int .i64 5, .int .i64 0, .int .i64 0, .int .i64 0, .int .i64 E] _ (fun w h => h.2) Try.underlying40 rfl (by kernel_rfl)) hS ?_
      refine wpAnyH_all (rs := [5]) (by kernel_rfl) (by simp) ?_
      intro i hi
      obtain rfl : i = 5 := by simpa using hi
      refine wpOp_store_row rfl rfl 37 _ _ rfl b1 #[.int .i64 pc, .int .i64 tp, .int .i64 (r 0), .int .i64 (r 1), .int .i64 (r 2), .int .i64 (r 3), .int .i64 (r 4), .int .i64 (r 5), .int .i64 (r 6), .int .i64 (r 7), .int .i64 (r 8), .int .i64 (r 9), .int .i64 (r 10), .int .i64 (r 11), .int .i64 (r 12), .int .i64 (r 13), .int .i64 (r 14), .int .i64 (r 15)] (by kernel_rfl) (by kernel_rfl) 37 #[.int .i64 0, .int .i64 0, .int .i64 0, .int .i64 0, .int .i64 0, .int .i64 0, .int .i64 0, .int .i64 0, .int .i64 0, .int .i64 0, .int .i64 0, .int .i64 0, .int .i64 0, .int .i64 0, .int .i64 0, .int .i64 0, .int .i64 0, .int .i64 0] (N0.out.swap.cel) (by kernel_rfl) rfl (by kernel_rfl) ?_
      refine ⟨HSK5.out _ hS, ?_⟩
      refine wpAnyH_all (rs := [6]) (by kernel_rfl) (by simp) ?_
      intro i hi
      obtain rfl : i = 6 := by simpa using hi
      refine wpOp_store_row rfl rfl 40 _ _ rfl b2 #[.int .i64 5, .int .i64 0, .int .i64 0, .int .i64 0, .int .i64 E] (by kernel_rfl) (by kernel_rfl) 40 #[.int .i64 0, .int .i64 0, .int .i64 0, .int .i64 0, .int .i64 0] ((N0.out.swap.setrow #[.int .i64 pc, .int .i64 tp, .int .i64 (r 0), .int .i64 (r 1), .int .i64 (r 2), .int .i64 (r 3), .int .i64 (r 4), .int .i64 (r 5), .int .i64 (r 6), .int .i64 (r 7), .int .i64 (r 8), .int .i64 (r 9), .int .i64 (r 10), .int .i64 (r 11), .int .i64 (r 12), .int .i64 (r 13), .int .i64 (r 14), .int .i64 (r 15)]).swap.cel) (by kernel_rfl) rfl (by kernel_rfl) ?_
      refine ⟨HSK6.out _ (HSK5.out _ hS), ?_⟩
      refine wpAnyH_done (by kernel_rfl) ?_ _
      refine NoPanic.normal ?_
      go_wp2
      try simp only [Exit.inBlock, Exit.then]
      refine bodyPost_ret (results_cell2_row (p := 4) (u := 5) (ty := 37) (uy := 40) rfl _ _ b1 b2 37 40 #[.int .i64 pc, .int .i64 tp, .int .i64 (r 0), .int .i64 (r 1), .int .i64 (r 2), .int .i64 (r 3), .int .i64 (r 4), .int .i64 (r 5), .int .i64 (r 6), .int .i64 (r 7), .int .i64 (r 8), .int .i64 (r 9), .int .i64 (r 10), .int .i64 (r 11), .int .i64 (r 12), .int .i64 (r 13), .int .i64 (r 14), .int .i64 (r 15)] #[.int .i64 5, .int .i64 0, .int .i64 0, .int .i64 0, .int .i64 E] _ _ rfl FA.out.swap.cel Try.underlying37 rfl (by kernel_rfl) rfl FA.out.cel Try.underlying40 rfl (by kernel_rfl)) rfl ?_
      exact ⟨by rw [HE.out]; rfl, by rw [HE.out]; exact FA.out.right.right.right.right⟩
end
end Go.Proofs.Ytkpaeogjefjbfaa
