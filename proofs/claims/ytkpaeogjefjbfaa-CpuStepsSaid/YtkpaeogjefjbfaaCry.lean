/-
  Layer 6: the document's step: an instruction told, a word loaded, a call.
  Layer 6: the document's step: what a jump, and a step, answer.
  Conditions: none. (My own text.)
-/
import Derived.Test.YtkpaeogjefjbfaaCrx
import Derived.Test.YtkpaeogjefjbfaaPk
import Derived.Test.YtkpaeogjefjbfaaRfw
namespace Go.Proofs.Ytkpaeogjefjbfaa
open Go.RowKit Spm
set_option linter.unusedVariables false
set_option linter.unusedSimpArgs false

def ins0 : Ins := ⟨0, 0, 0, 0, 0⟩
def toldS (C : Ctx) (L : List Rg) : Ins × Int :=
  if (getS L C.pc 8 4).2 = 0 then (if mayS (insK (getS L C.pc 8 4).1 0) = true then (insK (getS L C.pc 8 4).1 0, 0) else (ins0, 40)) else (ins0, (getS L C.pc 8 4).2)
def loadedS (C Was : Ctx) (L : List Rg) (a : Nat) (x : Int) : Ctx × Evt :=
  if (wordAt L x 1).2 = 0 then ({ C with r := upd C.r a (wordAt L x 1).1 }, ev0) else (Was, trapV (wordAt L x 1).2)
def calledS (C Was : Ctx) (L : List Rg) (t : Int) : Ctx × Evt × List Rg :=
  if (setS L (wrap64 (C.r 15 - 8)) (bytesS C.pc) 2).2 = 0 then ({ C with pc := t, r := upd C.r 15 (wrap64 (C.r 15 - 8)) }, ev0, (setS L (wrap64 (C.r 15 - 8)) (bytesS C.pc) 2).1)
  else (Was, trapV (setS L (wrap64 (C.r 15 - 8)) (bytesS C.pc) 2).2, (setS L (wrap64 (C.r 15 - 8)) (bytesS C.pc) 2).1)

section
variable {B : Nat} {w wr w' : World} {c : Nat} {L : List Rg} {Y : Res}
set_option maxRecDepth 100000 in
set_option maxHeartbeats 4000000 in
theorem told_own [hY : Fr Y] (h : Has B w wr (Star (Rf c L) Y)) (C : Ctx) (hc : CtxOk C) : Calls Try.prog 34 #[.agg C.arr, .pointer (some ⟨c, 0, none⟩)] wr fun e w' => e = .returned (.tuple #[.agg (insA (toldS C L).1), .int .i64 (toldS C L).2]) ∧ Has B w w' (Star (Rf c L) Y) := by
  obtain ⟨R, hR⟩ : ∃ R, toldS C L = R := ⟨_, rfl⟩
  rw [hR]
  have HR := Lib.hid hR
  clear hR
  have HOK := Lib.hid h.rok
  have HC := Lib.hid hc
  clear hc
  unfold Ctx.arr
  have M0 := Lib.hid ((h.newcel 37 #[.int .i64 C.pc, .int .i64 C.tp, .int .i64 (C.r 0), .int .i64 (C.r 1), .int .i64 (C.r 2), .int .i64 (C.r 3), .int .i64 (C.r 4), .int .i64 (C.r 5), .int .i64 (C.r 6), .int .i64 (C.r 7), .int .i64 (C.r 8), .int .i64 (C.r 9), .int .i64 (C.r 10), .int .i64 (C.r 11), .int .i64 (C.r 12), .int .i64 (C.r 13), .int .i64 (C.r 14), .int .i64 (C.r 15)]).newcel 30 #[.int .i64 0, .int .i64 0, .int .i64 0, .int .i64 0, .int .i64 0])
  go_enter Try.func34, Try.ntmps34
  go_upto_region 1 with (fail)
  have e1 : (wr.alloc (.cells #[.int .i64 C.pc, .int .i64 C.tp, .int .i64 (C.r 0), .int .i64 (C.r 1), .int .i64 (C.r 2), .int .i64 (C.r 3), .int .i64 (C.r 4), .int .i64 (C.r 5), .int .i64 (C.r 6), .int .i64 (C.r 7), .int .i64 (C.r 8), .int .i64 (C.r 9), .int .i64 (C.r 10), .int .i64 (C.r 11), .int .i64 (C.r 12), .int .i64 (C.r 13), .int .i64 (C.r 14), .int .i64 (C.r 15)] 37)).heap.size = wr.heap.size + 1 := by simp
  rw [e1] at M0
  obtain ⟨W, hW⟩ : ∃ W, ((wr.alloc (.cells #[.int .i64 C.pc, .int .i64 C.tp, .int .i64 (C.r 0), .int .i64 (C.r 1), .int .i64 (C.r 2), .int .i64 (C.r 3), .int .i64 (C.r 4), .int .i64 (C.r 5), .int .i64 (C.r 6), .int .i64 (C.r 7), .int .i64 (C.r 8), .int .i64 (C.r 9), .int .i64 (C.r 10), .int .i64 (C.r 11), .int .i64 (C.r 12), .int .i64 (C.r 13), .int .i64 (C.r 14), .int .i64 (C.r 15)] 37)).alloc (.cells #[.int .i64 0, .int .i64 0, .int .i64 0, .int .i64 0, .int .i64 0] 30)) = W := ⟨_, rfl⟩
  rw [hW] at M0 ⊢
  clear e1 hW
  generalize wr.heap.size + 1 = b1 at M0 ⊢
  generalize wr.heap.size = b0 at M0 ⊢
  have M1 : Hid (Has B w W (Star (Cel b1 30 #[.int .i64 0, .int .i64 0, .int .i64 0, .int .i64 0, .int .i64 0]) (Star (Cel b0 37 C.arr) (Star (Rf c L) Y)))) := M0
  clear M0
  clear h
  have hpc : W.cell? ⟨b0, 0, none⟩ = some (.int .i64 C.pc) := M1.out.cellat b0 0 rfl
  have C1 := Lib.hid (own_rget (M1.out.pick (Rf c L)) C.pc HC.out.pc 8 4 (by unfold I64; omega) (by decide))
  go_wp2_with fail
  refine (C1.out).mono ?_
  rintro e w2 ⟨v2, rfl, m2⟩
  obtain ⟨A2, cc2, rfl, hc1, hc2, hsr⟩ := m2.bt.src'
  have M2 := Lib.hid m2
  clear m2 C1 hpc M1
  obtain ⟨bs, hbs⟩ : ∃ bs, (getS L C.pc 8 4).1 = bs := ⟨_, rfl⟩
  obtain ⟨E, hE⟩ : ∃ E, (getS L C.pc 8 4).2 = E := ⟨_, rfl⟩
  have HG := Lib.hid (And.intro hbs hE)
  rw [hbs] at M2 hc1 hsr ⊢
  rw [hE]
  clear hbs hE
  by_cases hE0 : E = 0
  · subst hE0
    have h8 : bs.length = 8 := by
      have := get_len8 HOK.out (x := C.pc) (p := 4) HG.out.2
      rwa [HG.out.1] at this
    rw [h8] at hc1 ⊢
    have C2 := Lib.hid (read_of A2 cc2 bs h8 hc1 hc2 w2 hsr)
    have HR2 : Hid (R = if mayS (insK bs 0) = true then (insK bs 0, 0) else (ins0, 40)) := Lib.hid (by rw [← HR.out]; unfold toldS; rw [HG.out.2, if_pos rfl, HG.out.1])
    clear HR hsr hc1 hc2 HG h8
    obtain ⟨i, hi⟩ : ∃ i, insK bs 0 = i := ⟨_, rfl⟩
    rw [hi] at C2 HR2
    clear hi
    go_wp2_with fail
    refine (C2.out).mono ?_
    rintro e w3 ⟨rfl, hb3⟩
    have m3 := M2.out.stay hb3
    have M3 := Lib.hid (m3.newcel 30 #[.int .i64 0, .int .i64 0, .int .i64 0, .int .i64 0, .int .i64 0])
    have M4 := Lib.hid (M3.out.rowc w3.heap.size (insA i))
    clear C2 M2 hb3
    cases hm : mayS i
    · have HE : Hid (R = (ins0, 40)) := Lib.hid (by rw [HR2.out, hm]; rfl)
      clear HR2 hm
      have M5 := Lib.hid (M4.out.rowc b1 #[.int .i64 0, .int .i64 0, .int .i64 0, .int .i64 0, .int .i64 0])
      go_wp2_with (first | (refine wpList_store_row rfl 30 _ _ rfl w3.heap.size (insA i) rfl rfl 30 #[.int .i64 0, .int .i64 0, .int .i64 0, .int .i64 0, .int .i64 0] (M3.out.getc w3.heap.size) (by kernel_rfl) rfl (by kernel_rfl) ?_) | (refine wpList_store_row rfl 30 _ _ rfl b1 #[.int .i64 0, .int .i64 0, .int .i64 0, .int .i64 0, .int .i64 0] rfl rfl 30 #[.int .i64 0, .int .i64 0, .int .i64 0, .int .i64 0, .int .i64 0] (M4.out.getc b1) (by kernel_rfl) rfl (by kernel_rfl) ?_))
      try simp only [Exit.inBlock, Exit.then]
      refine bodyPost_ret (results_cellT_row (p := 4) (q := 5) (ty := 30) rfl _ _ b1 30 #[.int .i64 0, .int .i64 0, .int .i64 0, .int .i64 0, .int .i64 0] _ (by kernel_rfl) (M5.out.getc b1) Try.underlying30 rfl (by kernel_rfl) (.int .i64 40) (by kernel_rfl)) rfl ?_
      exact ⟨by rw [HE.out]; first | done | rfl, M5.out.back (Rf c L) Y⟩
    · have HE : Hid (R = (i, 0)) := Lib.hid (by rw [HR2.out, hm]; rfl)
      clear HR2 hm
      have M5 := Lib.hid (M4.out.rowc b1 (insA i))
      go_wp2_with (first | (refine wpList_store_row rfl 30 _ _ rfl w3.heap.size (insA i) rfl rfl 30 #[.int .i64 0, .int .i64 0, .int .i64 0, .int .i64 0, .int .i64 0] (M3.out.getc w3.heap.size) (by kernel_rfl) rfl (by kernel_rfl) ?_) | (refine wpList_load_rowW rfl 30 _ rfl w3.heap.size rfl (insA i) _ (M4.out.getc w3.heap.size) Try.underlying30 rfl (by kernel_rfl) ?_) | (refine wpList_store_row rfl 30 _ _ rfl b1 (insA i) rfl rfl 30 #[.int .i64 0, .int .i64 0, .int .i64 0, .int .i64 0, .int .i64 0] (M4.out.getc b1) (by kernel_rfl) rfl (by kernel_rfl) ?_))
      try simp only [Exit.inBlock, Exit.then]
      refine bodyPost_ret (results_cellT_row (p := 4) (q := 5) (ty := 30) rfl _ _ b1 30 (insA i) _ (by kernel_rfl) (M5.out.getc b1) Try.underlying30 rfl (by kernel_rfl) (.int .i64 0) (by kernel_rfl)) rfl ?_
      exact ⟨by rw [HE.out]; first | done | rfl, M5.out.back (Rf c L) Y⟩
  · have HE : Hid (R = (ins0, E)) := Lib.hid (by rw [← HR.out]; unfold toldS; rw [HG.out.2, if_neg hE0])
    have hbe : (E != 0) = true := bne_iff_ne.2 hE0
    clear HR HG hsr hc1 hc2
    have M5 := Lib.hid (M2.out.rowc b1 #[.int .i64 0, .int .i64 0, .int .i64 0, .int .i64 0, .int .i64 0])
    go_wp2_with (first | (refine wpList_store_row rfl 30 _ _ rfl b1 #[.int .i64 0, .int .i64 0, .int .i64 0, .int .i64 0, .int .i64 0] rfl rfl 30 #[.int .i64 0, .int .i64 0, .int .i64 0, .int .i64 0, .int .i64 0] (M2.out.getc b1) (by kernel_rfl) rfl (by kernel_rfl) ?_))
    try simp only [Exit.inBlock, Exit.then]
    refine bodyPost_ret (results_cellT_row (p := 4) (q := 5) (ty := 30) rfl _ _ b1 30 #[.int .i64 0, .int .i64 0, .int .i64 0, .int .i64 0, .int .i64 0] _ (by kernel_rfl) (M5.out.getc b1) Try.underlying30 rfl (by kernel_rfl) (.int .i64 E) (by kernel_rfl)) rfl ?_
    exact ⟨by rw [HE.out]; first | done | rfl, M5.out.back (Rf c L) Y⟩
set_option maxRecDepth 100000 in
set_option maxHeartbeats 4000000 in
theorem loaded_own [hY : Fr Y] (h : Has B w wr (Star (Rf c L) Y)) (C D : Ctx) {a : Nat} (ha : a < 16) (x : Int) (hx : I64 x) : Calls Try.prog 38 #[.agg C.arr, .agg D.arr, .pointer (some ⟨c, 0, none⟩), .int .i64 a, .int .i64 x] wr fun e w' => e = .returned (.tuple #[.agg (loadedS C D L a x).1.arr, .agg (loadedS C D L a x).2.arr]) ∧ Has B w w' (Star (Rf c L) Y) := by
  obtain ⟨R, hR⟩ : ∃ R, loadedS C D L a x = R := ⟨_, rfl⟩
  rw [hR]
  have HR := Lib.hid hR
  clear hR
  unfold Ctx.arr
  have M0 := Lib.hid ((((h.newcel 37 #[.int .i64 C.pc, .int .i64 C.tp, .int .i64 (C.r 0), .int .i64 (C.r 1), .int .i64 (C.r 2), .int .i64 (C.r 3), .int .i64 (C.r 4), .int .i64 (C.r 5), .int .i64 (C.r 6), .int .i64 (C.r 7), .int .i64 (C.r 8), .int .i64 (C.r 9), .int .i64 (C.r 10), .int .i64 (C.r 11), .int .i64 (C.r 12), .int .i64 (C.r 13), .int .i64 (C.r 14), .int .i64 (C.r 15)]).newcel 37 #[.int .i64 D.pc, .int .i64 D.tp, .int .i64 (D.r 0), .int .i64 (D.r 1), .int .i64 (D.r 2), .int .i64 (D.r 3), .int .i64 (D.r 4), .int .i64 (D.r 5), .int .i64 (D.r 6), .int .i64 (D.r 7), .int .i64 (D.r 8), .int .i64 (D.r 9), .int .i64 (D.r 10), .int .i64 (D.r 11), .int .i64 (D.r 12), .int .i64 (D.r 13), .int .i64 (D.r 14), .int .i64 (D.r 15)]).newcel 37 #[.int .i64 0, .int .i64 0, .int .i64 0, .int .i64 0, .int .i64 0, .int .i64 0, .int .i64 0, .int .i64 0, .int .i64 0, .int .i64 0, .int .i64 0, .int .i64 0, .int .i64 0, .int .i64 0, .int .i64 0, .int .i64 0, .int .i64 0, .int .i64 0]).newcel 40 #[.int .i64 0, .int .i64 0, .int .i64 0, .int .i64 0, .int .i64 0])
  go_enter Try.func38, Try.ntmps38
  go_upto_region 1 with (fail)
  have e1 : (wr.alloc (.cells #[.int .i64 C.pc, .int .i64 C.tp, .int .i64 (C.r 0), .int .i64 (C.r 1), .int .i64 (C.r 2), .int .i64 (C.r 3), .int .i64 (C.r 4), .int .i64 (C.r 5), .int .i64 (C.r 6), .int .i64 (C.r 7), .int .i64 (C.r 8), .int .i64 (C.r 9), .int .i64 (C.r 10), .int .i64 (C.r 11), .int .i64 (C.r 12), .int .i64 (C.r 13), .int .i64 (C.r 14), .int .i64 (C.r 15)] 37)).heap.size = wr.heap.size + 1 := by simp
  have e2 : ((wr.alloc (.cells #[.int .i64 C.pc, .int .i64 C.tp, .int .i64 (C.r 0), .int .i64 (C.r 1), .int .i64 (C.r 2), .int .i64 (C.r 3), .int .i64 (C.r 4), .int .i64 (C.r 5), .int .i64 (C.r 6), .int .i64 (C.r 7), .int .i64 (C.r 8), .int .i64 (C.r 9), .int .i64 (C.r 10), .int .i64 (C.r 11), .int .i64 (C.r 12), .int .i64 (C.r 13), .int .i64 (C.r 14), .int .i64 (C.r 15)] 37)).alloc (.cells #[.int .i64 D.pc, .int .i64 D.tp, .int .i64 (D.r 0), .int .i64 (D.r 1), .int .i64 (D.r 2), .int .i64 (D.r 3), .int .i64 (D.r 4), .int .i64 (D.r 5), .int .i64 (D.r 6), .int .i64 (D.r 7), .int .i64 (D.r 8), .int .i64 (D.r 9), .int .i64 (D.r 10), .int .i64 (D.r 11), .int .i64 (D.r 12), .int .i64 (D.r 13), .int .i64 (D.r 14), .int .i64 (D.r 15)] 37)).heap.size = wr.heap.size + 1 + 1 := by simp
  have e3 : (((wr.alloc (.cells #[.int .i64 C.pc, .int .i64 C.tp, .int .i64 (C.r 0), .int .i64 (C.r 1), .int .i64 (C.r 2), .int .i64 (C.r 3), .int .i64 (C.r 4), .int .i64 (C.r 5), .int .i64 (C.r 6), .int .i64 (C.r 7), .int .i64 (C.r 8), .int .i64 (C.r 9), .int .i64 (C.r 10), .int .i64 (C.r 11), .int .i64 (C.r 12), .int .i64 (C.r 13), .int .i64 (C.r 14), .int .i64 (C.r 15)] 37)).alloc (.cells #[.int .i64 D.pc, .int .i64 D.tp, .int .i64 (D.r 0), .int .i64 (D.r 1), .int .i64 (D.r 2), .int .i64 (D.r 3), .int .i64 (D.r 4), .int .i64 (D.r 5), .int .i64 (D.r 6), .int .i64 (D.r 7), .int .i64 (D.r 8), .int .i64 (D.r 9), .int .i64 (D.r 10), .int .i64 (D.r 11), .int .i64 (D.r 12), .int .i64 (D.r 13), .int .i64 (D.r 14), .int .i64 (D.r 15)] 37)).alloc (.cells #[.int .i64 0, .int .i64 0, .int .i64 0, .int .i64 0, .int .i64 0, .int .i64 0, .int .i64 0, .int .i64 0, .int .i64 0, .int .i64 0, .int .i64 0, .int .i64 0, .int .i64 0, .int .i64 0, .int .i64 0, .int .i64 0, .int .i64 0, .int .i64 0] 37)).heap.size = wr.heap.size + 1 + 1 + 1 := by simp
  rw [e3, e2, e1] at M0
  obtain ⟨W, hW⟩ : ∃ W, ((((wr.alloc (.cells #[.int .i64 C.pc, .int .i64 C.tp, .int .i64 (C.r 0), .int .i64 (C.r 1), .int .i64 (C.r 2), .int .i64 (C.r 3), .int .i64 (C.r 4), .int .i64 (C.r 5), .int .i64 (C.r 6), .int .i64 (C.r 7), .int .i64 (C.r 8), .int .i64 (C.r 9), .int .i64 (C.r 10), .int .i64 (C.r 11), .int .i64 (C.r 12), .int .i64 (C.r 13), .int .i64 (C.r 14), .int .i64 (C.r 15)] 37)).alloc (.cells #[.int .i64 D.pc, .int .i64 D.tp, .int .i64 (D.r 0), .int .i64 (D.r 1), .int .i64 (D.r 2), .int .i64 (D.r 3), .int .i64 (D.r 4), .int .i64 (D.r 5), .int .i64 (D.r 6), .int .i64 (D.r 7), .int .i64 (D.r 8), .int .i64 (D.r 9), .int .i64 (D.r 10), .int .i64 (D.r 11), .int .i64 (D.r 12), .int .i64 (D.r 13), .int .i64 (D.r 14), .int .i64 (D.r 15)] 37)).alloc (.cells #[.int .i64 0, .int .i64 0, .int .i64 0, .int .i64 0, .int .i64 0, .int .i64 0, .int .i64 0, .int .i64 0, .int .i64 0, .int .i64 0, .int .i64 0, .int .i64 0, .int .i64 0, .int .i64 0, .int .i64 0, .int .i64 0, .int .i64 0, .int .i64 0] 37)).alloc (.cells #[.int .i64 0, .int .i64 0, .int .i64 0, .int .i64 0, .int .i64 0] 40)) = W := ⟨_, rfl⟩
  rw [hW] at M0 ⊢
  clear e1 e2 e3 hW
  generalize wr.heap.size + 1 + 1 + 1 = b3 at M0 ⊢
  generalize wr.heap.size + 1 + 1 = b2 at M0 ⊢
  generalize wr.heap.size + 1 = b1 at M0 ⊢
  generalize wr.heap.size = b0 at M0 ⊢
  have M1 : Hid (Has B w W (Star (Cel b3 40 #[.int .i64 0, .int .i64 0, .int .i64 0, .int .i64 0, .int .i64 0]) (Star (Cel b2 37 #[.int .i64 0, .int .i64 0, .int .i64 0, .int .i64 0, .int .i64 0, .int .i64 0, .int .i64 0, .int .i64 0, .int .i64 0, .int .i64 0, .int .i64 0, .int .i64 0, .int .i64 0, .int .i64 0, .int .i64 0, .int .i64 0, .int .i64 0, .int .i64 0]) (Star (Cel b1 37 D.arr) (Star (Cel b0 37 C.arr) (Star (Rf c L) Y)))))) := M0
  clear M0
  clear h
  have C1 := Lib.hid (own_rword (M1.out.pick (Rf c L)) x hx 1 (by decide))
  clear hx
  obtain ⟨v, hv⟩ : ∃ v, (wordAt L x 1).1 = v := ⟨_, rfl⟩
  obtain ⟨E, hE⟩ : ∃ E, (wordAt L x 1).2 = E := ⟨_, rfl⟩
  have HG := Lib.hid (And.intro hv hE)
  rw [hv, hE] at C1
  clear hv hE
  by_cases hE0 : E = 0
  · subst hE0
    have HE : Hid (R = ({ C with r := upd C.r a v }, ev0)) := Lib.hid (by rw [← HR.out]; unfold loadedS; rw [HG.out.2, if_pos rfl, HG.out.1])
    clear HR HG
    go_wp2_with fail
    refine (C1.out).mono ?_
    rintro e w2 ⟨rfl, m2⟩
    have M2 := Lib.hid m2
    clear m2 C1 M1
    have lv : w2.frozen? ⟨b0, 2 + a, none⟩ = false := M2.out.liveat b0 (2 + a)
    have ol : w2.cell? ⟨b0, 2 + a, none⟩ = some (.int .i64 (C.r a)) := M2.out.cellat b0 (2 + a) (ctx_reg _ ha)
    have na0 : (0 : Int) ≤ (a : Int) := by omega
    have na1 : (a : Int) < 16 := by omega
    have M3 := Lib.hid (M2.out.cellc b0 (2 + a) (.int .i64 v) (Ctx.arr { C with r := upd C.r a v }) (ctx_set _ ha v).symm)
    clear ha
    obtain ⟨C2, hC2⟩ : ∃ C2 : Ctx, { C with r := upd C.r a v } = C2 := ⟨_, rfl⟩
    rw [hC2] at M3 HE
    clear hC2
    have M4 := Lib.hid (M3.out.rowc b2 C2.arr)
    have M5 := Lib.hid (M4.out.rowc b3 #[.int .i64 0, .int .i64 0, .int .i64 0, .int .i64 0, .int .i64 0])
    go_wp2_with (first | (refine wpList_load_rowW rfl 37 _ rfl b0 rfl C2.arr _ (M3.out.getc b0) Try.underlying37 rfl (by kernel_rfl) ?_) | (refine wpList_store_row rfl 37 _ _ rfl b2 C2.arr rfl rfl 37 #[.int .i64 0, .int .i64 0, .int .i64 0, .int .i64 0, .int .i64 0, .int .i64 0, .int .i64 0, .int .i64 0, .int .i64 0, .int .i64 0, .int .i64 0, .int .i64 0, .int .i64 0, .int .i64 0, .int .i64 0, .int .i64 0, .int .i64 0, .int .i64 0] (M3.out.getc b2) (by kernel_rfl) rfl (by kernel_rfl) ?_) | (refine wpList_store_row rfl 40 _ _ rfl b3 #[.int .i64 0, .int .i64 0, .int .i64 0, .int .i64 0, .int .i64 0] rfl rfl 40 #[.int .i64 0, .int .i64 0, .int .i64 0, .int .i64 0, .int .i64 0] (M4.out.getc b3) (by kernel_rfl) rfl (by kernel_rfl) ?_))
    try simp only [Exit.inBlock, Exit.then]
    refine bodyPost_ret (results_cell2_row (p := 10) (u := 11) (ty := 37) (uy := 40) rfl _ _ b2 b3 37 40 C2.arr #[.int .i64 0, .int .i64 0, .int .i64 0, .int .i64 0, .int .i64 0] _ _ (by kernel_rfl) (M5.out.getc b2) Try.underlying37 rfl (by kernel_rfl) (by kernel_rfl) (M5.out.getc b3) Try.underlying40 rfl (by kernel_rfl)) rfl ?_
    exact ⟨by rw [HE.out]; first | done | rfl, M5.out.back (Rf c L) Y⟩
  · have HE : Hid (R = (D, trapV E)) := Lib.hid (by rw [← HR.out]; unfold loadedS; rw [HG.out.2, if_neg hE0])
    have hbe : (E != 0) = true := bne_iff_ne.2 hE0
    clear HR HG
    go_wp2_with fail
    refine (C1.out).mono ?_
    rintro e w2 ⟨rfl, m2⟩
    have M2 := Lib.hid m2
    clear m2 C1 M1
    have C2 := Lib.hid (trapped_any D E w2)
    go_wp2_with (first | (refine wpList_load_rowW rfl 37 _ rfl b1 rfl D.arr _ (M2.out.getc b1) Try.underlying37 rfl (by kernel_rfl) ?_))
    refine (C2.out).mono ?_
    rintro e w3 ⟨rfl, hb3⟩
    have m3 := M2.out.stay hb3
    have M3 := Lib.hid m3
    clear m3 C2 M2 hb3
    have M4 := Lib.hid (M3.out.rowc b2 D.arr)
    have M5 := Lib.hid (M4.out.rowc b3 (trapV E).arr)
    go_wp2_with (first | (refine wpList_store_row rfl 37 _ _ rfl b2 D.arr rfl rfl 37 #[.int .i64 0, .int .i64 0, .int .i64 0, .int .i64 0, .int .i64 0, .int .i64 0, .int .i64 0, .int .i64 0, .int .i64 0, .int .i64 0, .int .i64 0, .int .i64 0, .int .i64 0, .int .i64 0, .int .i64 0, .int .i64 0, .int .i64 0, .int .i64 0] (M3.out.getc b2) (by kernel_rfl) rfl (by kernel_rfl) ?_) | (refine wpList_store_row rfl 40 _ _ rfl b3 (trapV E).arr rfl rfl 40 #[.int .i64 0, .int .i64 0, .int .i64 0, .int .i64 0, .int .i64 0] (M4.out.getc b3) (by kernel_rfl) rfl (by kernel_rfl) ?_))
    try simp only [Exit.inBlock, Exit.then]
    refine bodyPost_ret (results_cell2_row (p := 10) (u := 11) (ty := 37) (uy := 40) rfl _ _ b2 b3 37 40 D.arr (trapV E).arr _ _ (by kernel_rfl) (M5.out.getc b2) Try.underlying37 rfl (by kernel_rfl) (by kernel_rfl) (M5.out.getc b3) Try.underlying40 rfl (by kernel_rfl)) rfl ?_
    exact ⟨by rw [HE.out]; first | done | rfl, M5.out.back (Rf c L) Y⟩
set_option maxRecDepth 100000 in
set_option maxHeartbeats 4000000 in
theorem called_own [hY : Fr Y] (h : Has B w wr (Star (Rf c L) Y)) (C D : Ctx) (t : Int) : Calls Try.prog 74 #[.agg C.arr, .agg D.arr, .pointer (some ⟨c, 0, none⟩), .int .i64 t] wr fun e w' => e = .returned (.tuple #[.agg (calledS C D L t).1.arr, .agg (calledS C D L t).2.1.arr]) ∧ Has B w w' (Star (Rf c (calledS C D L t).2.2) Y) := by
  obtain ⟨R, hR⟩ : ∃ R, calledS C D L t = R := ⟨_, rfl⟩
  rw [hR]
  have HR := Lib.hid hR
  clear hR
  unfold Ctx.arr
  have M0 := Lib.hid ((((h.newcel 37 #[.int .i64 C.pc, .int .i64 C.tp, .int .i64 (C.r 0), .int .i64 (C.r 1), .int .i64 (C.r 2), .int .i64 (C.r 3), .int .i64 (C.r 4), .int .i64 (C.r 5), .int .i64 (C.r 6), .int .i64 (C.r 7), .int .i64 (C.r 8), .int .i64 (C.r 9), .int .i64 (C.r 10), .int .i64 (C.r 11), .int .i64 (C.r 12), .int .i64 (C.r 13), .int .i64 (C.r 14), .int .i64 (C.r 15)]).newcel 37 #[.int .i64 D.pc, .int .i64 D.tp, .int .i64 (D.r 0), .int .i64 (D.r 1), .int .i64 (D.r 2), .int .i64 (D.r 3), .int .i64 (D.r 4), .int .i64 (D.r 5), .int .i64 (D.r 6), .int .i64 (D.r 7), .int .i64 (D.r 8), .int .i64 (D.r 9), .int .i64 (D.r 10), .int .i64 (D.r 11), .int .i64 (D.r 12), .int .i64 (D.r 13), .int .i64 (D.r 14), .int .i64 (D.r 15)]).newcel 37 #[.int .i64 0, .int .i64 0, .int .i64 0, .int .i64 0, .int .i64 0, .int .i64 0, .int .i64 0, .int .i64 0, .int .i64 0, .int .i64 0, .int .i64 0, .int .i64 0, .int .i64 0, .int .i64 0, .int .i64 0, .int .i64 0, .int .i64 0, .int .i64 0]).newcel 40 #[.int .i64 0, .int .i64 0, .int .i64 0, .int .i64 0, .int .i64 0])
  go_enter Try.func74, Try.ntmps74
  go_upto_region 1 with (fail)
  have e1 : (wr.alloc (.cells #[.int .i64 C.pc, .int .i64 C.tp, .int .i64 (C.r 0), .int .i64 (C.r 1), .int .i64 (C.r 2), .int .i64 (C.r 3), .int .i64 (C.r 4), .int .i64 (C.r 5), .int .i64 (C.r 6), .int .i64 (C.r 7), .int .i64 (C.r 8), .int .i64 (C.r 9), .int .i64 (C.r 10), .int .i64 (C.r 11), .int .i64 (C.r 12), .int .i64 (C.r 13), .int .i64 (C.r 14), .int .i64 (C.r 15)] 37)).heap.size = wr.heap.size + 1 := by simp
  have e2 : ((wr.alloc (.cells #[.int .i64 C.pc, .int .i64 C.tp, .int .i64 (C.r 0), .int .i64 (C.r 1), .int .i64 (C.r 2), .int .i64 (C.r 3), .int .i64 (C.r 4), .int .i64 (C.r 5), .int .i64 (C.r 6), .int .i64 (C.r 7), .int .i64 (C.r 8), .int .i64 (C.r 9), .int .i64 (C.r 10), .int .i64 (C.r 11), .int .i64 (C.r 12), .int .i64 (C.r 13), .int .i64 (C.r 14), .int .i64 (C.r 15)] 37)).alloc (.cells #[.int .i64 D.pc, .int .i64 D.tp, .int .i64 (D.r 0), .int .i64 (D.r 1), .int .i64 (D.r 2), .int .i64 (D.r 3), .int .i64 (D.r 4), .int .i64 (D.r 5), .int .i64 (D.r 6), .int .i64 (D.r 7), .int .i64 (D.r 8), .int .i64 (D.r 9), .int .i64 (D.r 10), .int .i64 (D.r 11), .int .i64 (D.r 12), .int .i64 (D.r 13), .int .i64 (D.r 14), .int .i64 (D.r 15)] 37)).heap.size = wr.heap.size + 1 + 1 := by simp
  have e3 : (((wr.alloc (.cells #[.int .i64 C.pc, .int .i64 C.tp, .int .i64 (C.r 0), .int .i64 (C.r 1), .int .i64 (C.r 2), .int .i64 (C.r 3), .int .i64 (C.r 4), .int .i64 (C.r 5), .int .i64 (C.r 6), .int .i64 (C.r 7), .int .i64 (C.r 8), .int .i64 (C.r 9), .int .i64 (C.r 10), .int .i64 (C.r 11), .int .i64 (C.r 12), .int .i64 (C.r 13), .int .i64 (C.r 14), .int .i64 (C.r 15)] 37)).alloc (.cells #[.int .i64 D.pc, .int .i64 D.tp, .int .i64 (D.r 0), .int .i64 (D.r 1), .int .i64 (D.r 2), .int .i64 (D.r 3), .int .i64 (D.r 4), .int .i64 (D.r 5), .int .i64 (D.r 6), .int .i64 (D.r 7), .int .i64 (D.r 8), .int .i64 (D.r 9), .int .i64 (D.r 10), .int .i64 (D.r 11), .int .i64 (D.r 12), .int .i64 (D.r 13), .int .i64 (D.r 14), .int .i64 (D.r 15)] 37)).alloc (.cells #[.int .i64 0, .int .i64 0, .int .i64 0, .int .i64 0, .int .i64 0, .int .i64 0, .int .i64 0, .int .i64 0, .int .i64 0, .int .i64 0, .int .i64 0, .int .i64 0, .int .i64 0, .int .i64 0, .int .i64 0, .int .i64 0, .int .i64 0, .int .i64 0] 37)).heap.size = wr.heap.size + 1 + 1 + 1 := by simp
  rw [e3, e2, e1] at M0
  obtain ⟨W, hW⟩ : ∃ W, ((((wr.alloc (.cells #[.int .i64 C.pc, .int .i64 C.tp, .int .i64 (C.r 0), .int .i64 (C.r 1), .int .i64 (C.r 2), .int .i64 (C.r 3), .int .i64 (C.r 4), .int .i64 (C.r 5), .int .i64 (C.r 6), .int .i64 (C.r 7), .int .i64 (C.r 8), .int .i64 (C.r 9), .int .i64 (C.r 10), .int .i64 (C.r 11), .int .i64 (C.r 12), .int .i64 (C.r 13), .int .i64 (C.r 14), .int .i64 (C.r 15)] 37)).alloc (.cells #[.int .i64 D.pc, .int .i64 D.tp, .int .i64 (D.r 0), .int .i64 (D.r 1), .int .i64 (D.r 2), .int .i64 (D.r 3), .int .i64 (D.r 4), .int .i64 (D.r 5), .int .i64 (D.r 6), .int .i64 (D.r 7), .int .i64 (D.r 8), .int .i64 (D.r 9), .int .i64 (D.r 10), .int .i64 (D.r 11), .int .i64 (D.r 12), .int .i64 (D.r 13), .int .i64 (D.r 14), .int .i64 (D.r 15)] 37)).alloc (.cells #[.int .i64 0, .int .i64 0, .int .i64 0, .int .i64 0, .int .i64 0, .int .i64 0, .int .i64 0, .int .i64 0, .int .i64 0, .int .i64 0, .int .i64 0, .int .i64 0, .int .i64 0, .int .i64 0, .int .i64 0, .int .i64 0, .int .i64 0, .int .i64 0] 37)).alloc (.cells #[.int .i64 0, .int .i64 0, .int .i64 0, .int .i64 0, .int .i64 0] 40)) = W := ⟨_, rfl⟩
  rw [hW] at M0 ⊢
  clear e1 e2 e3 hW
  generalize wr.heap.size + 1 + 1 + 1 = b3 at M0 ⊢
  generalize wr.heap.size + 1 + 1 = b2 at M0 ⊢
  generalize wr.heap.size + 1 = b1 at M0 ⊢
  generalize wr.heap.size = b0 at M0 ⊢
  have M1 : Hid (Has B w W (Star (Cel b3 40 #[.int .i64 0, .int .i64 0, .int .i64 0, .int .i64 0, .int .i64 0]) (Star (Cel b2 37 #[.int .i64 0, .int .i64 0, .int .i64 0, .int .i64 0, .int .i64 0, .int .i64 0, .int .i64 0, .int .i64 0, .int .i64 0, .int .i64 0, .int .i64 0, .int .i64 0, .int .i64 0, .int .i64 0, .int .i64 0, .int .i64 0, .int .i64 0, .int .i64 0]) (Star (Cel b1 37 D.arr) (Star (Cel b0 37 C.arr) (Star (Rf c L) Y)))))) := M0
  clear M0
  clear h
  have C1 := Lib.hid (own_rsetWord (M1.out.pick (Rf c L)) (wrap64 (C.r 15 - 8)) (wrap64_I64 _) C.pc 2 (by decide))
  obtain ⟨E, hE⟩ : ∃ E, (setS L (wrap64 (C.r 15 - 8)) (bytesS C.pc) 2).2 = E := ⟨_, rfl⟩
  obtain ⟨L2, hL2⟩ : ∃ L2, (setS L (wrap64 (C.r 15 - 8)) (bytesS C.pc) 2).1 = L2 := ⟨_, rfl⟩
  have HG := Lib.hid (And.intro hL2 hE)
  rw [hL2, hE] at C1
  clear hL2 hE
  have hpc : W.cell? ⟨b0, 0, none⟩ = some (.int .i64 C.pc) := M1.out.cellat b0 0 rfl
  have h15 : W.cell? ⟨b0, 17, none⟩ = some (.int .i64 (C.r 15)) := M1.out.cellat b0 17 rfl
  by_cases hE0 : E = 0
  · subst hE0
    have HE : Hid (R = ({ C with pc := t, r := upd C.r 15 (wrap64 (C.r 15 - 8)) }, ev0, L2)) := Lib.hid (by rw [← HR.out]; unfold calledS; rw [HG.out.2, if_pos rfl, HG.out.1])
    clear HR HG
    go_wp2_with fail
    refine (C1.out).mono ?_
    rintro e w2 ⟨rfl, m2⟩
    have M2 := Lib.hid m2
    clear m2 C1 M1 hpc h15
    have lv : w2.frozen? ⟨b0, 17, none⟩ = false := M2.out.liveat b0 17
    have ol : w2.cell? ⟨b0, 17, none⟩ = some (.int .i64 (C.r 15)) := M2.out.cellat b0 17 rfl
    have lv0 : w2.frozen? ⟨b0, 0, none⟩ = false := M2.out.liveat b0 0
    have ol0 : w2.cell? ⟨b0, 0, none⟩ = some (.int .i64 C.pc) := M2.out.cellat b0 0 rfl
    have M3a := Lib.hid (M2.out.cellc b0 17 (.int .i64 (wrap64 (C.r 15 - 8))) (Ctx.arr { C with r := upd C.r 15 (wrap64 (C.r 15 - 8)) }) rfl)
    have M3 := Lib.hid (M3a.out.cellc b0 0 (.int .i64 t) (Ctx.arr { C with pc := t, r := upd C.r 15 (wrap64 (C.r 15 - 8)) }) rfl)
    clear M3a
    obtain ⟨C2, hC2⟩ : ∃ C2 : Ctx, { C with pc := t, r := upd C.r 15 (wrap64 (C.r 15 - 8)) } = C2 := ⟨_, rfl⟩
    rw [hC2] at M3 HE
    clear hC2
    have M4 := Lib.hid (M3.out.rowc b2 C2.arr)
    have M5 := Lib.hid (M4.out.rowc b3 #[.int .i64 0, .int .i64 0, .int .i64 0, .int .i64 0, .int .i64 0])
    go_wp2_with (first | (refine wpList_load_rowW rfl 37 _ rfl b0 rfl C2.arr _ (M3.out.getc b0) Try.underlying37 rfl (by kernel_rfl) ?_) | (refine wpList_store_row rfl 37 _ _ rfl b2 C2.arr rfl rfl 37 #[.int .i64 0, .int .i64 0, .int .i64 0, .int .i64 0, .int .i64 0, .int .i64 0, .int .i64 0, .int .i64 0, .int .i64 0, .int .i64 0, .int .i64 0, .int .i64 0, .int .i64 0, .int .i64 0, .int .i64 0, .int .i64 0, .int .i64 0, .int .i64 0] (M3.out.getc b2) (by kernel_rfl) rfl (by kernel_rfl) ?_) | (refine wpList_store_row rfl 40 _ _ rfl b3 #[.int .i64 0, .int .i64 0, .int .i64 0, .int .i64 0, .int .i64 0] rfl rfl 40 #[.int .i64 0, .int .i64 0, .int .i64 0, .int .i64 0, .int .i64 0] (M4.out.getc b3) (by kernel_rfl) rfl (by kernel_rfl) ?_))
    try simp only [Exit.inBlock, Exit.then]
    refine bodyPost_ret (results_cell2_row (p := 8) (u := 9) (ty := 37) (uy := 40) rfl _ _ b2 b3 37 40 C2.arr #[.int .i64 0, .int .i64 0, .int .i64 0, .int .i64 0, .int .i64 0] _ _ (by kernel_rfl) (M5.out.getc b2) Try.underlying37 rfl (by kernel_rfl) (by kernel_rfl) (M5.out.getc b3) Try.underlying40 rfl (by kernel_rfl)) rfl ?_
    exact ⟨by rw [HE.out]; first | done | rfl, by rw [HE.out]; exact M5.out.back (Rf c L2) Y⟩
  · have HE : Hid (R = (D, trapV E, L2)) := Lib.hid (by rw [← HR.out]; unfold calledS; rw [HG.out.2, if_neg hE0, HG.out.1])
    have hbe : (E != 0) = true := bne_iff_ne.2 hE0
    clear HR HG
    go_wp2_with fail
    refine (C1.out).mono ?_
    rintro e w2 ⟨rfl, m2⟩
    have M2 := Lib.hid m2
    clear m2 C1 M1 hpc h15
    have C2 := Lib.hid (trapped_any D E w2)
    go_wp2_with (first | (refine wpList_load_rowW rfl 37 _ rfl b1 rfl D.arr _ (M2.out.getc b1) Try.underlying37 rfl (by kernel_rfl) ?_))
    refine (C2.out).mono ?_
    rintro e w3 ⟨rfl, hb3⟩
    have m3 := M2.out.stay hb3
    have M3 := Lib.hid m3
    clear m3 C2 M2 hb3
    have M4 := Lib.hid (M3.out.rowc b2 D.arr)
    have M5 := Lib.hid (M4.out.rowc b3 (trapV E).arr)
    go_wp2_with (first | (refine wpList_store_row rfl 37 _ _ rfl b2 D.arr rfl rfl 37 #[.int .i64 0, .int .i64 0, .int .i64 0, .int .i64 0, .int .i64 0, .int .i64 0, .int .i64 0, .int .i64 0, .int .i64 0, .int .i64 0, .int .i64 0, .int .i64 0, .int .i64 0, .int .i64 0, .int .i64 0, .int .i64 0, .int .i64 0, .int .i64 0] (M3.out.getc b2) (by kernel_rfl) rfl (by kernel_rfl) ?_) | (refine wpList_store_row rfl 40 _ _ rfl b3 (trapV E).arr rfl rfl 40 #[.int .i64 0, .int .i64 0, .int .i64 0, .int .i64 0, .int .i64 0] (M4.out.getc b3) (by kernel_rfl) rfl (by kernel_rfl) ?_))
    try simp only [Exit.inBlock, Exit.then]
    refine bodyPost_ret (results_cell2_row (p := 8) (u := 9) (ty := 37) (uy := 40) rfl _ _ b2 b3 37 40 D.arr (trapV E).arr _ _ (by kernel_rfl) (M5.out.getc b2) Try.underlying37 rfl (by kernel_rfl) (by kernel_rfl) (M5.out.getc b3) Try.underlying40 rfl (by kernel_rfl)) rfl ?_
    exact ⟨by rw [HE.out]; first | done | rfl, by rw [HE.out]; exact M5.out.back (Rf c L2) Y⟩
end
end Go.Proofs.Ytkpaeogjefjbfaa

namespace Go.Proofs.Ytkpaeogjefjbfaa
open Go.RowKit Spm
set_option linter.unusedVariables false
set_option linter.unusedSimpArgs false

def jumpedS (C D : Ctx) (L : List Rg) (i : Ins) : Ctx × Evt × Bool × List Rg :=
  if i.op = 13 then ({ C with pc := wrap64 (C.pc + i.n) }, ev0, true, L) else
  if i.op = 14 then ({ C with pc := if rgI C i.a = 0 then wrap64 (C.pc + i.n) else C.pc }, ev0, true, L) else
  if i.op = 15 then ((calledS C D L (wrap64 (C.pc + i.n))).1, (calledS C D L (wrap64 (C.pc + i.n))).2.1, true, (calledS C D L (wrap64 (C.pc + i.n))).2.2) else
  if i.op = 16 then ((calledS C D L (rgI C i.a)).1, (calledS C D L (rgI C i.a)).2.1, true, (calledS C D L (rgI C i.a)).2.2) else
  if i.op = 17 then ({ C with pc := rgI C i.a }, ev0, true, L) else
  if i.op = 18 then (if (wordAt L (C.r 15) 1).2 = 0 then ({ C with pc := (wordAt L (C.r 15) 1).1, r := upd C.r 15 (wrap64 (C.r 15 + 8)) }, ev0, true, L) else (D, trapV (wordAt L (C.r 15) 1).2, true, L)) else
  (C, ev0, false, L)
def JumpE (B : Nat) (w : World) (c : Nat) (R : Ctx × Evt × Bool × List Rg) (Y : Res) (e : Ending) (w' : World) : Prop := e = .returned (.tuple #[.agg R.1.arr, .agg R.2.1.arr, .bool R.2.2.1]) ∧ Has B w w' (Star (Rf c R.2.2.2) Y)

def StepE (B : Nat) (w : World) (c : Nat) (R : Ctx × Evt × List Rg) (Y : Res) (e : Ending) (w' : World) : Prop := e = .returned (.tuple #[.agg R.1.arr, .agg R.2.1.arr]) ∧ Has B w w' (Star (Rf c R.2.2) Y)
end Go.Proofs.Ytkpaeogjefjbfaa
