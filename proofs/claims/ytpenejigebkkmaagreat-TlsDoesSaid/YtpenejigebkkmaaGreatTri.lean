/-
  Layer 17, the document's side: Address.
  Conditions: none. (My own text.)
-/
import Derived.Test.YtpenejigebkkmaaGreatTrh
namespace Go.Proofs.YtpenejigebkkmaaGreat
open Go.RowKit Spm
set_option linter.unusedVariables false
set_option linter.unusedSimpArgs false
attribute [local irreducible] wpList

def DAddrE (r q : Nat) (d : Dt) (L : List Rg) (Y : Res) (B : Nat) (w : World) (id n off : Int) (e : Ending) (w' : World) : Prop := ∃ p k d' L', DAddrP d L id n off p k d' L' ∧ e = .returned (.tuple #[.int .i64 p, .int .i64 k]) ∧ Has B w w' (Dl r d' (Star (Rf q L') Y))
section
variable {d : Dt} {L L1 : List Rg} {id n off at_ e1 : Int} {y : DT} {x : DM} {b : Bk}
theorem daddr_nt (h : efind DT.id d.tl id = none) : DAddrP d L id n off 0 171 d L := by unfold DAddrP; rw [h]; exact ⟨rfl, rfl, rfl, rfl⟩
theorem daddr_nm (h : efind DT.id d.tl id = some y) (h2 : efind DM.n d.ml n = none) : DAddrP d L id n off 0 170 d L := by unfold DAddrP; rw [h, h2]; exact ⟨rfl, rfl, rfl, rfl⟩
theorem daddr_arg (h : efind DT.id d.tl id = some y) (h2 : efind DM.n d.ml n = some x) (h3 : off < 0 ∨ x.sz ≤ off) : DAddrP d L id n off 0 1 d L := by
  unfold DAddrP; rw [h, h2]
  show ite _ _ _
  rw [if_pos h3]; exact ⟨rfl, rfl, rfl, rfl⟩
theorem daddr_st (h : efind DT.id d.tl id = some y) (h2 : efind DM.n d.ml n = some x) (h3 : ¬ (off < 0 ∨ x.sz ≤ off)) (h4 : x.st = true) : DAddrP d L id n off (wrap64 (wrap64 (y.tp + x.bh) + off)) 0 d L := by
  unfold DAddrP; rw [h, h2]
  show ite _ _ _
  rw [if_neg h3, if_pos h4]; exact ⟨rfl, rfl, rfl, rfl⟩
theorem daddr_old (h : efind DT.id d.tl id = some y) (h2 : efind DM.n d.ml n = some x) (h3 : ¬ (off < 0 ∨ x.sz ≤ off)) (h4 : ¬ x.st = true) (h5 : efind Bk.md y.bl n = some b) : DAddrP d L id n off (wrap64 (b.at_ + off)) 0 d L := by
  unfold DAddrP; rw [h, h2]
  show ite _ _ _
  rw [if_neg h3, if_neg h4, h5]; exact ⟨rfl, rfl, rfl, rfl⟩
theorem daddr_no (h : efind DT.id d.tl id = some y) (h2 : efind DM.n d.ml n = some x) (h3 : ¬ (off < 0 ∨ x.sz ≤ off)) (h4 : ¬ x.st = true) (h5 : efind Bk.md y.bl n = none) (hm : mapS L x.sz 3 = (L1, at_, e1)) (he : ¬ e1 = 0) : DAddrP d L id n off 0 e1 d L1 := by
  unfold DAddrP; rw [h, h2]
  show ite _ _ _
  rw [if_neg h3, if_neg h4, h5, hm]
  show ite _ _ _
  rw [if_neg he]; exact ⟨rfl, rfl, rfl, rfl⟩
theorem daddr_new (h : efind DT.id d.tl id = some y) (h2 : efind DM.n d.ml n = some x) (h3 : ¬ (off < 0 ∨ x.sz ≤ off)) (h4 : ¬ x.st = true) (h5 : efind Bk.md y.bl n = none) (hm : mapS L x.sz 3 = (L1, at_, e1)) (he : e1 = 0) {l1 l2 : List DT} (h6 : d.tl = l1 ++ y :: l2) (h7 : ∀ z ∈ l1, z.id ≠ id) (A : Option Addr) (c : Nat) :
    DAddrP d L id n off (wrap64 (at_ + off)) 0 { d with tl := l1 ++ ⟨y.id, y.tp, A, c, y.bl ++ [⟨n, x.gen, at_, x.sz⟩]⟩ :: l2 } (fillS L1 at_ x) := by
  unfold DAddrP; rw [h, h2]
  show ite _ _ _
  rw [if_neg h3, if_neg h4, h5, hm]
  show ite _ _ _
  rw [if_pos he]; exact ⟨rfl, rfl, rfl, l1, l2, A, c, h6, h7, rfl⟩
end
theorem exec_index {P : Program} {o : Oper} {a : Go.Act} {w : World} (ty : TypeId) (x y : Operand) (ho : o.op = .indexAddr ty x y) (g N c : Nat) (hx : a.eval x = .slice (some ⟨g, 0, none⟩) N c) (j : Nat) (hy : a.eval y = .int .i64 j) (h : P.underlying ty = some (.slice (P.elem ty))) (n : Nat) (hs : (P.info? (P.elem ty)).map (·.size) = some n) (hj : j < N) : (execOp a.eval o).run P w = .ok (.value (.pointer (some ⟨g, j * n, none⟩))) w := by
  have hz : (sizeOf (P.elem ty)).run P w = .ok n w := by
    cases hq : P.info? (P.elem ty) with
    | none => simp [hq] at hs
    | some i =>
      have : i.size = n := by simpa [hq] using hs
      simp [sizeOf, typeInfo, hq, this]
  have hadd : (⟨g, 0, none⟩ : Addr).add (j * n) = ⟨g, j * n, none⟩ := by rw [Addr.add_lit, Nat.zero_add]
  have hr : (Instr.indexAt ty (.slice (some ⟨g, 0, none⟩) N c) (.int .i64 j)).run P w = .ok (.pointer (some ⟨g, j * n, none⟩)) w := by
    rw [run_indexAt_slice (t := ty) (len := N) (cap := c) (k := .i64) (i := (j : Int)) (h := h), if_pos ⟨by omega, by omega⟩, hz, Result.andThen_ok, Int.toNat_natCast, hadd]
  unfold execOp
  simp [ho, hx, hy, hr]
theorem mapS_I64 {L : List Rg} (h : Ok L) (n p : Int) : I64 (mapS L n p).2.1 := by
  have hi := mapS_hi L n p
  refine ⟨?_, hi⟩
  unfold mapS
  split
  · show _ ≤ (0 : Int); omega
  · split
    · show _ ≤ (0 : Int); omega
    · show _ ≤ (gapS L n).1
      unfold gapS
      split
      · show _ ≤ (0 : Int); omega
      · split
        · show _ ≤ (0 : Int); omega
        · show _ ≤ gapGo (Spm.up n) L 4096
          have := (gapGo_bound (Spm.up n) L 4096 (fun r hr => h.each r hr) (by omega)).1
          omega
theorem bfind_at {l : List Bk} {n : Int} {j : Nat} {b : Bk} (hb : ∀ z ∈ l.take j, z.md ≠ n) (hj : l[j]? = some b) (h : b.md = n) : efind Bk.md l n = some b := by
  have hlt := (List.getElem?_eq_some_iff.1 hj).1
  have e : l = l.take j ++ b :: l.drop (j + 1) := by
    obtain ⟨h5, h6⟩ := List.getElem?_eq_some_iff.1 hj
    rw [← h6, ← List.drop_eq_getElem_cons h5, List.take_append_drop]
  have := (efind_split_of (key := Bk.md) (k := n) (x := b) (l1 := l.take j) (l2 := l.drop (j + 1)) (fun z hz => decide_eq_false (hb z hz)) (decide_eq_true h)).1
  rwa [← e] at this
set_option maxRecDepth 100000 in
set_option maxHeartbeats 8000000 in
theorem raddr_any {B : Nat} {w wr : World} {Y : Res} [hY : Fr Y] {r q : Nat} {d : Dt} {L : List Rg} (h : Has B w wr (Dl r d (Star (Rf q L) Y))) (hbl : ∀ y ∈ d.tl, y.bl.length ≤ 1000) (htm : ∀ x ∈ d.ml, x.tm.length ≤ 9223372036854775807) (id n off : Int) : Calls Tryz.prog 31 #[.pointer (some ⟨r, 0, none⟩), .pointer (some ⟨q, 0, none⟩), .int .i64 id, .int .i64 n, .int .i64 off] wr (DAddrE r q d L Y B w id n off) := by
  have C1 := Lib.hid (rthread_any h id)
  have CM := Lib.hid (rmodule_any h n)
  have M0 := Lib.hid h
  rcases idxI_cases (fun x : DT => decide (x.id = id)) d.tl with ⟨h1, h2⟩ | ⟨l1, y, l2, h1, h2, h3, h4⟩
  · have hm : tIdx d.tl id = -1 := h1
    rw [hm] at C1
    have HE : Hid (DAddrE r q d L Y B w id n off (.returned (.tuple #[.int .i64 0, .int .i64 171])) wr) := Lib.hid ⟨_, _, _, _, daddr_nt (efind_none_of' h2), rfl, h⟩
    clear h h1 h2 hm M0 CM
    go_enter Tryz.func31, Tryz.ntmps31
    go_wp2_with fail
    refine (C1.out).mono ?_
    rintro e w1 ⟨rfl, rfl⟩
    go_wp2
    go_ret2
    exact HE.out
  have hm : tIdx d.tl id = (l1.length : Nat) := h2
  rw [hm] at C1
  have f1 := (efind_split_of (l2 := l2) h4 h3).1
  rw [← h1] at f1
  have hk : l1.length < d.tl.length := by rw [h1]; simp
  have hx : d.tl[l1.length]? = some y := by rw [h1, List.getElem?_append_right (Nat.le_refl _), Nat.sub_self]; rfl
  have hyb := hbl y (by rw [h1]; simp)
  have H4 : Hid (∀ z ∈ l1, z.id ≠ id) := Lib.hid (fun z hz => of_decide_eq_false (h4 z hz))
  have HF1 := Lib.hid f1
  obtain ⟨kt, hkt⟩ : ∃ kt, l1.length = kt := ⟨_, rfl⟩
  have HKT := Lib.hid hkt
  rw [hkt] at C1 hk hx
  clear hm h2 h3 h4 f1 hbl hkt
  rcases idxI_cases (fun x : DM => decide (x.n = n)) d.ml with ⟨m1, m2⟩ | ⟨k1, x, k2, m1, m2, m3, m4⟩
  · have hm : mIdx d.ml n = -1 := m1
    rw [hm] at CM
    have HE : Hid (DAddrE r q d L Y B w id n off (.returned (.tuple #[.int .i64 0, .int .i64 170])) wr) := Lib.hid ⟨_, _, _, _, daddr_nm HF1.out (efind_none_of' m2), rfl, h⟩
    clear h h1 m1 m2 hm M0 hk hx hyb htm
    go_enter Tryz.func31, Tryz.ntmps31
    go_wp2_with fail
    refine (C1.out).mono ?_
    rintro e w1 ⟨rfl, rfl⟩
    go_wp2_with fail
    refine (CM.out).mono ?_
    rintro e w1 ⟨rfl, rfl⟩
    go_wp2
    go_ret2
    exact HE.out
  have hm : mIdx d.ml n = (k1.length : Nat) := m2
  rw [hm] at CM
  have f2 := (efind_split_of (l2 := k2) m4 m3).1
  rw [← m1] at f2
  have HF2 := Lib.hid f2
  have hkm : k1.length < d.ml.length := by rw [m1]; simp
  have hxm : d.ml[k1.length]? = some x := by rw [m1, List.getElem?_append_right (Nat.le_refl _), Nat.sub_self]; rfl
  have HTX := Lib.hid (htm x (by rw [m1]; simp))
  obtain ⟨km, hkm0⟩ : ∃ km, k1.length = km := ⟨_, rfl⟩
  rw [hkm0] at CM hkm hxm
  clear hm m1 m2 m3 m4 f2 hkm0 htm
  -- the module's row
  obtain ⟨Am, cm, hvm, hlm, hcm, hrow⟩ := Has.rwsv dm_rowT.len (h.pick (Mods d.vm d.ml))
  obtain ⟨gm, hA, -, hcm2⟩ := hrow _ _ hxm
  subst hA
  obtain ⟨NM, hN⟩ : ∃ NM, d.ml.length = NM := ⟨_, rfl⟩
  rw [hN] at hvm hlm hkm
  have s0 : wr.cell? ⟨r, 0, none⟩ = some (.slice (some ⟨gm, 0, none⟩) NM cm) := by rw [← hvm]; exact h.cellat r 0 rfl
  -- the thread's row
  obtain ⟨At, ct, hvt, hlt, hct, hrowt⟩ := Has.rwsv dt_rowT.len (h.pick (Thrs d.vt d.tl))
  obtain ⟨gt, hA, -, hct2⟩ := hrowt _ _ hx
  subst hA
  obtain ⟨NT, hNT⟩ : ∃ NT, d.tl.length = NT := ⟨_, rfl⟩
  rw [hNT] at hvt hlt hk
  have HVT := Lib.hid hvt
  have HX := Lib.hid hx
  unfold maxLen at hcm hct
  have H1 := Lib.hid h1
  obtain ⟨xn, xg, xs, xb, tm, xst⟩ := x
  obtain ⟨yid, ytp, yA, yc, ybl⟩ := y
  obtain ⟨S, hS⟩ : ∃ S, strB tm = S := ⟨_, rfl⟩
  have HS := Lib.hid hS
  have HT : Hid (∀ W X, Has B w W (Star (Thrs d.vt d.tl) X) → W.cell? ⟨gt, kt * 3 + 1, none⟩ = some (.int .i64 ytp) ∧ W.cell? ⟨gt, kt * 3 + 2, none⟩ = some (.slice yA ybl.length yc) ∧ ∀ k, W.frozen? ⟨gt, k, none⟩ = false) := Lib.hid (fun W X m => by
    obtain ⟨A', c', hv', -, -, hrow'⟩ := Has.rwsv dt_rowT.len m
    have m2 := m
    rw [HVT.out] at hv' m2
    injection hv' with e1
    obtain ⟨g', hA', -, hcell⟩ := hrow' _ _ HX.out
    rw [← e1] at hA'
    cases hA'
    exact ⟨hcell 1 _ rfl, hcell 2 _ rfl, fun k => Has.rwsLive m2 k⟩)
  have cel : ∀ j' v, (#[.int .i64 xn, .int .i64 xg, .int .i64 xs, .int .i64 xb, .string S, .bool xst] : Array Value).toList[j']? = some v → wr.cell? ⟨gm, km * 6 + j', none⟩ = some v := fun j' v hv => hcm2 j' v (by rw [← hS] at hv; exact hv)
  have Na := Lib.hid (h.newcel 107 #[.int .i64 0, .int .i64 0, .int .i64 0, .int .i64 0, .string ⟨#[]⟩, .bool false])
  have Nb := Lib.hid (Na.out.rowc wr.heap.size #[.int .i64 xn, .int .i64 xg, .int .i64 xs, .int .i64 xb, .string S, .bool xst])
  clear h h1 hrow hrowt hcm2 hct2 hvm hvt hN hNT hx hxm hS
  have GO : ∀ (K : Nat → Prop), True := fun _ => trivial
  clear GO
  go_enter Tryz.func31, Tryz.ntmps31
  go_wp2_with fail
  refine (C1.out).mono ?_
  rintro e w1 ⟨rfl, rfl⟩
  clear C1
  go_wp2_with fail
  refine (CM.out).mono ?_
  rintro e w1 ⟨rfl, rfl⟩
  clear CM
  go_upto_region 8 with (first | (refine wpList_partW rfl 107 _ rfl gm (km * 6) rfl #[.int .i64 xn, .int .i64 xg, .int .i64 xs, .int .i64 xb, .string S, .bool xst] _ cel Tryz.underlying107 rfl (by kernel_rfl) ?_) | (refine wpList_store_row rfl 107 _ _ rfl wr.heap.size #[.int .i64 xn, .int .i64 xg, .int .i64 xs, .int .i64 xb, .string S, .bool xst] rfl rfl 107 #[.int .i64 0, .int .i64 0, .int .i64 0, .int .i64 0, .string ⟨#[]⟩, .bool false] (Na.out.getc wr.heap.size) (by kernel_rfl) rfl (by kernel_rfl) ?_))
  obtain ⟨W1, hW⟩ : ∃ W1, (wr.alloc (.cells #[.int .i64 0, .int .i64 0, .int .i64 0, .int .i64 0, .string ⟨#[]⟩, .bool false] 107)).setRow wr.heap.size #[.int .i64 xn, .int .i64 xg, .int .i64 xs, .int .i64 xb, .string S, .bool xst] = W1 := ⟨_, rfl⟩
  rw [hW] at Nb ⊢
  clear hW Na M0 cel s0
  generalize wr.heap.size = x14 at Nb ⊢
  have z1 : W1.cell? ⟨x14, 1, none⟩ = some (.int .i64 xg) := Nb.out.cellat x14 1 rfl
  have z2 : W1.cell? ⟨x14, 2, none⟩ = some (.int .i64 xs) := Nb.out.cellat x14 2 rfl
  have z3 : W1.cell? ⟨x14, 3, none⟩ = some (.int .i64 xb) := Nb.out.cellat x14 3 rfl
  have z5 : W1.cell? ⟨x14, 5, none⟩ = some (.bool xst) := Nb.out.cellat x14 5 rfl
  have s2 : W1.cell? ⟨r, 2, none⟩ = some (.slice (some ⟨gt, 0, none⟩) NT ct) := by rw [← HVT.out]; exact Nb.out.cellat r 2 rfl
  obtain ⟨t1, t2, -⟩ := HT.out _ _ (Nb.out.pick (Thrs d.vt d.tl))
  have MD : Hid (Has B w W1 (Dl r d (Star (Rf q L) Y))) := Lib.hid (Nb.out.norm (Star (Cel r 33 d.arr) (Star (Mods d.vm d.ml) (Star (Gens d.vg d.gl) (Star (Thrs d.vt d.tl) (Star (All dtR d.tl) (Star (Rf q L) Y)))))))
  by_cases a0 : off < 0
  · have HE : Hid (DAddrE r q d L Y B w id n off (.returned (.tuple #[.int .i64 0, .int .i64 1])) W1) := Lib.hid ⟨_, _, _, _, daddr_arg HF1.out HF2.out (.inl a0), rfl, MD.out⟩
    clear MD Nb
    go_wp2
    go_ret2
    exact HE.out
  by_cases a1 : xs ≤ off
  · have HE : Hid (DAddrE r q d L Y B w id n off (.returned (.tuple #[.int .i64 0, .int .i64 1])) W1) := Lib.hid ⟨_, _, _, _, daddr_arg HF1.out HF2.out (.inr a1), rfl, MD.out⟩
    clear MD Nb
    go_wp2
    go_ret2
    exact HE.out
  have HNA : Hid (¬ (off < 0 ∨ xs ≤ off)) := Lib.hid (by omega)
  cases xst with
  | true =>
    have HE : Hid (∀ k, DAddrE r q d L Y B w id n off (.returned (.tuple #[.int .i64 (wrap64 (wrap64 (ytp + xb) + off)), .int .i64 0])) (W1.drewN k)) := Lib.hid (fun k => ⟨_, _, _, _, daddr_st HF1.out HF2.out HNA.out rfl, rfl, MD.out.stay (below_drewN (Below.refl _ _) k)⟩)
    have hk0 : (0 : Int) ≤ (kt : Int) := by omega
    have hk1 : (kt : Int) < (NT : Int) := by omega
    clear MD Nb
    go_upto_region 11 with fail
    go_quiet (fail)
    go_wp2
    try simp only [i64_wrap64]
    go_ret2
    exact HE.out _
  | false =>
    have hst : ¬ (false = true) := by decide
    obtain ⟨arrM, harrM⟩ : ∃ arrM : Array Value, #[.int .i64 xn, .int .i64 xg, .int .i64 xs, .int .i64 xb, .string S, .bool false] = arrM := ⟨_, rfl⟩
    have HAM := Lib.hid harrM
    rw [harrM] at Nb
    have M1 := Lib.hid (Dl.take (Nb.out.norm (Star (Cel r 33 d.arr) (Star (Mods d.vm d.ml) (Star (Gens d.vg d.gl) (Star (Thrs d.vt d.tl) (Star (All dtR d.tl) (Star (Rf q L) (Star (Cel x14 107 arrM) Y)))))))) H1.out)
    clear MD Nb harrM
    go_wp2
    clear z1 z2 z3 z5 s2 t1 t2
    go_loopw [68] (fun i wr => ∃ j : Nat, j ≤ ybl.length ∧ i = .int .i64 j ∧ Hid (∀ b ∈ ybl.take j, b.md ≠ n) ∧ Hid (Has B w wr (Star (Blks (.slice yA ybl.length yc) ybl) (DlX r d (l1 ++ l2) (Star (Rf q L) (Star (Cel x14 107 arrM) Y)))))) (fun i _ => ybl.length - (intOf i).toNat)
    case atStart => exact ⟨0, Nat.zero_le _, rfl, Lib.hid (fun b hb => by simp at hb), M1⟩
    case round =>
      obtain ⟨j, hj, rfl, HB, M2⟩ := hrel
      clear M1
      by_cases hlt2 : j < ybl.length
      · obtain ⟨b, hbj⟩ : ∃ b, ybl[j]? = some b := ⟨_, List.getElem?_eq_getElem hlt2⟩
        obtain ⟨A2, c2, hv2, -, -, hrow2⟩ := Has.rwsv rb_rowT.len M2.out
        cases hv2
        obtain ⟨bg, hbA, hbl2, hcb⟩ := hrow2 j b hbj
        subst hbA
        have cel : ∀ j' v, (#[.int .i64 b.md, .int .i64 b.gn, .int .i64 b.at_, .int .i64 b.sz] : Array Value).toList[j']? = some v → wr.cell? ⟨bg, j * 4 + j', none⟩ = some v := fun j' v hv => hcb j' v hv
        have HBJ := Lib.hid hbj
        have Na := Lib.hid (M2.out.newcel 96 #[.int .i64 0, .int .i64 0, .int .i64 0, .int .i64 0])
        have Nb := Lib.hid (Na.out.rowc wr.heap.size #[.int .i64 b.md, .int .i64 b.gn, .int .i64 b.at_, .int .i64 b.sz])
        clear hrow2 hcb hbj
        go_upto_region 15 with (first | (refine wpList_partW rfl 96 _ rfl bg (j * 4) rfl #[.int .i64 b.md, .int .i64 b.gn, .int .i64 b.at_, .int .i64 b.sz] _ cel Tryz.underlying96 rfl (by kernel_rfl) ?_) | (refine wpList_store_row rfl 96 _ _ rfl wr.heap.size #[.int .i64 b.md, .int .i64 b.gn, .int .i64 b.at_, .int .i64 b.sz] rfl rfl 96 #[.int .i64 0, .int .i64 0, .int .i64 0, .int .i64 0] (Na.out.getc wr.heap.size) (by kernel_rfl) rfl (by kernel_rfl) ?_))
        obtain ⟨W2, hW⟩ : ∃ W2, (wr.alloc (.cells #[.int .i64 0, .int .i64 0, .int .i64 0, .int .i64 0] 96)).setRow wr.heap.size #[.int .i64 b.md, .int .i64 b.gn, .int .i64 b.at_, .int .i64 b.sz] = W2 := ⟨_, rfl⟩
        rw [hW] at Nb ⊢
        clear hW Na M2 cel
        generalize wr.heap.size = x16 at Nb ⊢
        have b0 : W2.cell? ⟨x16, 0, none⟩ = some (.int .i64 b.md) := Nb.out.cellat x16 0 rfl
        have b2 : W2.cell? ⟨x16, 2, none⟩ = some (.int .i64 b.at_) := Nb.out.cellat x16 2 rfl
        have M3 : Hid (Has B w W2 (Star (Blks (.slice (some ⟨bg, 0, none⟩) ybl.length yc) ybl) (DlX r d (l1 ++ l2) (Star (Rf q L) (Star (Cel x14 107 arrM) Y))))) := Lib.hid Nb.out.right
        clear Nb
        by_cases hmd : b.md = n
        · have HE : Hid (DAddrE r q d L Y B w id n off (.returned (.tuple #[.int .i64 (wrap64 (b.at_ + off)), .int .i64 0])) W2) := Lib.hid ⟨_, _, _, _, daddr_old HF1.out HF2.out HNA.out hst (bfind_at HB.out HBJ.out hmd), rfl, by
            have h5 := Dl.give (r := r) (d := d) (y := ⟨yid, ytp, some ⟨bg, 0, none⟩, yc, ybl⟩) M3.out
            rw [← H1.out] at h5
            exact h5.norm (Star (Cel r 33 d.arr) (Star (Mods d.vm d.ml) (Star (Gens d.vg d.gl) (Star (Thrs d.vt d.tl) (Star (All dtR d.tl) (Star (Rf q L) Y))))))⟩
          clear M3
          go_wp2
          go_ret2
          exact HE.out
        · have HB2 : Hid (∀ b ∈ ybl.take (j + 1), b.md ≠ n) := Lib.hid (fun z hz => by
            rw [List.take_add_one, HBJ.out, List.mem_append] at hz
            rcases hz with hz | hz
            · exact HB.out z hz
            · obtain rfl : z = b := by simpa using hz
              exact hmd)
          clear b2
          go_wp2
          go_roundw
          case rel => exact ⟨j + 1, by omega, by go_num, HB2, M3⟩
          case measure => simp [intOf]; omega
      · obtain rfl : j = ybl.length := by omega
        have HNB : Hid (efind Bk.md ybl n = none) := Lib.hid (efind_none_of (fun z hz => HB.out z (by rw [List.take_length]; exact hz)))
        have z2 : wr.cell? ⟨x14, 2, none⟩ = some (.int .i64 xs) := M2.out.cellat x14 2 (by rw [← HAM.out]; rfl)
        have C2 := Lib.hid (own_rmap (M2.out.pick (Rf q L)) xs 3)
        obtain ⟨L1, at_, e1, hmp⟩ : ∃ L1 at_ e1, mapS L xs 3 = (L1, at_, e1) := ⟨_, _, _, rfl⟩
        rw [hmp] at C2
        have HMP := Lib.hid hmp
        have HAT : Hid (I64 at_) := Lib.hid (by have h5 := mapS_I64 (M2.out.pick (Rf q L)).rok xs 3; rwa [hmp] at h5)
        clear hmp M2 HB
        go_wp2_with fail
        refine (C2.out).mono ?_
        rintro e w2 ⟨rfl, m⟩
        have M3 := Lib.hid (m.norm (Star (Blks (.slice yA ybl.length yc) ybl) (DlX r d (l1 ++ l2) (Star (Rf q L1) (Star (Cel x14 107 arrM) Y)))))
        clear m C2 z2
        by_cases he : e1 = 0
        · have hDM : dmA ⟨xn, xg, xs, xb, tm, false⟩ = arrM := by unfold dmA; rw [HS.out, ← HAM.out]
          have C3 := Lib.hid (rfill_any (M3.out.pick (Rf q L1)) at_ HAT.out ⟨xn, xg, xs, xb, tm, false⟩ HTX.out)
          rw [hDM] at C3
          obtain ⟨L2, hL2⟩ : ∃ L2, fillS L1 at_ ⟨xn, xg, xs, xb, tm, false⟩ = L2 := ⟨_, rfl⟩
          rw [hL2] at C3
          have HE : Hid (∀ w' A c, Has B w w' (Dl r { d with tl := l1 ++ ⟨yid, ytp, A, c, ybl ++ [⟨n, xg, at_, xs⟩]⟩ :: l2 } (Star (Rf q L2) Y)) → DAddrE r q d L Y B w id n off (.returned (.tuple #[.int .i64 (wrap64 (at_ + off)), .int .i64 0])) w') := Lib.hid (fun w' A c hh => ⟨_, _, _, _, daddr_new HF1.out HF2.out HNA.out hst HNB.out HMP.out he H1.out H4.out A c, rfl, by rw [hL2]; exact hh⟩)
          subst he
          have hsz : (Tryz.prog.info? 107).map (·.size) = some arrM.size := by rw [← HAM.out]; kernel_rfl
          clear hL2 hDM HMP HNB HF1 HF2 HNA
          go_wp2_with (refine wpList_load_row rfl 107 _ rfl x14 rfl 107 arrM (0, 0) _ (M3.out.getc x14) Tryz.underlying107 rfl hsz ?_)
          refine (C3.out).mono ?_
          rintro e w3 ⟨rfl, m⟩
          have M4 := Lib.hid (m.norm (Star (Blks (.slice yA ybl.length yc) ybl) (DlX r d (l1 ++ l2) (Star (Rf q L2) (Star (Cel x14 107 arrM) Y)))))
          clear m C3 M3 hsz
          go_upto_region 22 with fail
          have M5 := Lib.hid (M4.out.stay ((Below.refl _ w3).drew))
          have z1 : w3.drew.cell? ⟨x14, 1, none⟩ = some (.int .i64 xg) := M5.out.cellat x14 1 (by rw [← HAM.out]; rfl)
          have z2 : w3.drew.cell? ⟨x14, 2, none⟩ = some (.int .i64 xs) := M5.out.cellat x14 2 (by rw [← HAM.out]; rfl)
          have s2 : w3.drew.cell? ⟨r, 2, none⟩ = some (.slice (some ⟨gt, 0, none⟩) NT ct) := by rw [← HVT.out]; exact M5.out.cellat r 2 rfl
          obtain ⟨t1, t2, -⟩ := HT.out _ _ (M5.out.pick (Thrs d.vt d.tl))
          have hk0 : (0 : Int) ≤ (kt : Int) := by omega
          have hk1 : (kt : Int) < (NT : Int) := by omega
          clear M4
          obtain ⟨v', w', hr, mm⟩ := Has.append1 rb_rowT (M5.out.pick (Blks (.slice yA ybl.length yc) ybl)) ⟨n, xg, at_, xs⟩ #[.int .i64 n, .int .i64 xg, .int .i64 at_, .int .i64 xs] rfl (by omega) 94
          obtain ⟨lb, hlb⟩ : ∃ lb, ybl ++ [(⟨n, xg, at_, xs⟩ : Bk)] = lb := ⟨_, rfl⟩
          rw [hlb] at mm HE
          obtain ⟨A2, c2, hv2, -, -, -⟩ := Has.rwsv rb_rowT.len mm
          subst hv2
          have h7 := mm.pick (Thrs d.vt d.tl)
          obtain ⟨-, t2', fz'⟩ := HT.out _ _ h7
          have fz : w'.frozen? ⟨gt, kt * 3 + 2, none⟩ = false := fz' _
          have HF : Hid (DAddrE r q d L Y B w id n off (.returned (.tuple #[.int .i64 (wrap64 (at_ + off)), .int .i64 0])) (w'.setCell ⟨gt, kt * 3 + 2, none⟩ (.slice A2 lb.length c2))) := Lib.hid (HE.out _ A2 c2 (by
            rw [HVT.out] at h7
            have h9 := h7.rwsSet dt_rowT.len kt ⟨yid, ytp, yA, yc, ybl⟩ ⟨yid, ytp, A2, c2, lb⟩ HX.out 2 (by decide) (.slice A2 lb.length c2) rfl
            rw [← HVT.out] at h9
            have e9 : d.tl.set kt ⟨yid, ytp, A2, c2, lb⟩ = l1 ++ (⟨yid, ytp, A2, c2, lb⟩ : DT) :: l2 := by
              rw [H1.out, List.set_append_right _ _ (by rw [HKT.out]; exact Nat.le_refl _), HKT.out, Nat.sub_self]
              rfl
            rw [e9] at h9
            have h10 := h9.norm (Star (Blks (.slice A2 lb.length c2) lb) (Star (Cel r 33 d.arr) (Star (Mods d.vm d.ml) (Star (Gens d.vg d.gl) (Star (Thrs d.vt (l1 ++ (⟨yid, ytp, A2, c2, lb⟩ : DT) :: l2)) (Star (All dtR (l1 ++ l2)) (Star (Rf q L2) Y)))))))
            exact Dl.give (r := r) (d := { d with tl := l1 ++ (⟨yid, ytp, A2, c2, lb⟩ : DT) :: l2 }) (y := ⟨yid, ytp, A2, c2, lb⟩) (l1 := l1) (l2 := l2) h10))
          have HR := Lib.hid hr
          have M5a := Lib.hid (M5.out.stay ((Below.refl _ w3.drew).alloc (Nat.le_refl _) (.cells #[.int .i64 n, .int .i64 xg, .int .i64 at_, .int .i64 xs] 96)))
          have t2a := (HT.out _ _ (M5a.out.pick (Thrs d.vt d.tl))).2.1
          have hS1 : (w3.drew.alloc (.cells #[.int .i64 n, .int .i64 xg, .int .i64 at_, .int .i64 xs] 96)).cell? ⟨r, 2, none⟩ = some (.slice (some ⟨gt, 0, none⟩) NT ct) ∧ (w3.drew.alloc (.cells #[.int .i64 n, .int .i64 xg, .int .i64 at_, .int .i64 xs] 96)).cell? ⟨x14, 1, none⟩ = some (.int .i64 xg) ∧ (w3.drew.alloc (.cells #[.int .i64 n, .int .i64 xg, .int .i64 at_, .int .i64 xs] 96)).cell? ⟨x14, 2, none⟩ = some (.int .i64 xs) := ⟨by rw [← HVT.out]; exact M5a.out.cellat r 2 rfl, M5a.out.cellat x14 1 (by rw [← HAM.out]; rfl), M5a.out.cellat x14 2 (by rw [← HAM.out]; rfl)⟩
          have hS2 : w'.cell? ⟨r, 2, none⟩ = some (.slice (some ⟨gt, 0, none⟩) NT ct) ∧ w'.cell? ⟨x14, 1, none⟩ = some (.int .i64 xg) ∧ w'.cell? ⟨x14, 2, none⟩ = some (.int .i64 xs) := ⟨by rw [← HVT.out]; exact mm.cellat r 2 rfl, mm.cellat x14 1 (by rw [← HAM.out]; rfl), mm.cellat x14 2 (by rw [← HAM.out]; rfl)⟩
          have hS3 : (w'.setCell ⟨gt, kt * 3 + 2, none⟩ (.slice A2 lb.length c2)).cell? ⟨r, 2, none⟩ = some (.slice (some ⟨gt, 0, none⟩) NT ct) ∧ (w'.setCell ⟨gt, kt * 3 + 2, none⟩ (.slice A2 lb.length c2)).cell? ⟨x14, 1, none⟩ = some (.int .i64 xg) ∧ (w'.setCell ⟨gt, kt * 3 + 2, none⟩ (.slice A2 lb.length c2)).cell? ⟨x14, 2, none⟩ = some (.int .i64 xs) := by
            have h8 := mm.pick (Thrs d.vt d.tl)
            rw [HVT.out] at h8
            have h9 := h8.rwsSet dt_rowT.len kt ⟨yid, ytp, yA, yc, ybl⟩ ⟨yid, ytp, A2, c2, lb⟩ HX.out 2 (by decide) (.slice A2 lb.length c2) rfl
            rw [← HVT.out] at h9
            exact ⟨by rw [← HVT.out]; exact h9.cellat r 2 rfl, h9.cellat x14 1 (by rw [← HAM.out]; rfl), h9.cellat x14 2 (by rw [← HAM.out]; rfl)⟩
          generalize lb.length = n2 at HR HF hS3
          clear hr mm h7 fz' M5 HE hlb M5a
          have hS : (fun X : World => X.cell? ⟨r, 2, none⟩ = some (.slice (some ⟨gt, 0, none⟩) NT ct) ∧ X.cell? ⟨x14, 1, none⟩ = some (.int .i64 xg) ∧ X.cell? ⟨x14, 2, none⟩ = some (.int .i64 xs)) w3.drew := ⟨s2, z1, z2⟩
          refine wp_region_noPanic ?_
          refine wp_region_held_drew (S := fun X : World => X.cell? ⟨r, 2, none⟩ = some (.slice (some ⟨gt, 0, none⟩) NT ct) ∧ X.cell? ⟨x14, 1, none⟩ = some (.int .i64 xg) ∧ X.cell? ⟨x14, 2, none⟩ = some (.int .i64 xs)) (by kernel_rfl) hS ?_
          clear hS
          intro hS
          refine takeR (i := 0) (v := (.pointer (some ⟨r, 0, none⟩))) 95 rfl (by kernel_rfl) (by kernel_rfl) (by kernel_rfl) (by kernel_rfl) (fun _ _ _ h => h) (yields_pure (by kernel_rfl) (fun w => by kernel_rfl)) hS ?_
          refine takeR (i := 1) (v := (.pointer (some ⟨r, 0, none⟩))) 96 rfl (by kernel_rfl) (by kernel_rfl) (by kernel_rfl) (by kernel_rfl) (fun _ _ _ h => h) (yields_pure (by kernel_rfl) (fun w => by kernel_rfl)) hS ?_
          refine takeR (i := 2) (v := (.pointer (some ⟨r, 2, none⟩))) 97 rfl (by kernel_rfl) (by kernel_rfl) (by kernel_rfl) (by kernel_rfl) (fun _ _ _ h => h) (yields_pure (by kernel_rfl) (fun w => by kernel_rfl)) hS ?_
          refine takeR (i := 3) 98 rfl (by kernel_rfl) (by kernel_rfl) (by kernel_rfl) (by kernel_rfl) (fun _ _ _ h => h) (yields_load_cell (by kernel_rfl) 31 _ rfl r 2 (by kernel_rfl) (.slice (some ⟨gt, 0, none⟩) NT ct) (fun X h => h.1) _ Tryz.underlying31 rfl) hS ?_
          refine takeR (i := 4) (v := (.int .i64 kt)) 99 rfl (by kernel_rfl) (by kernel_rfl) (by kernel_rfl) (by kernel_rfl) (fun _ _ _ h => h) (yields_pure (by kernel_rfl) (fun w => by kernel_rfl)) hS ?_
          refine takeR (i := 5) (v := (.pointer (some ⟨r, 0, none⟩))) 100 rfl (by kernel_rfl) (by kernel_rfl) (by kernel_rfl) (by kernel_rfl) (fun _ _ _ h => h) (yields_pure (by kernel_rfl) (fun w => by kernel_rfl)) hS ?_
          refine takeR (i := 6) (v := (.pointer (some ⟨r, 0, none⟩))) 101 rfl (by kernel_rfl) (by kernel_rfl) (by kernel_rfl) (by kernel_rfl) (fun _ _ _ h => h) (yields_pure (by kernel_rfl) (fun w => by kernel_rfl)) hS ?_
          refine takeR (i := 7) (v := (.pointer (some ⟨r, 2, none⟩))) 102 rfl (by kernel_rfl) (by kernel_rfl) (by kernel_rfl) (by kernel_rfl) (fun _ _ _ h => h) (yields_pure (by kernel_rfl) (fun w => by kernel_rfl)) hS ?_
          refine takeR (i := 8) 103 rfl (by kernel_rfl) (by kernel_rfl) (by kernel_rfl) (by kernel_rfl) (fun _ _ _ h => h) (yields_load_cell (by kernel_rfl) 31 _ rfl r 2 (by kernel_rfl) (.slice (some ⟨gt, 0, none⟩) NT ct) (fun X h => h.1) _ Tryz.underlying31 rfl) hS ?_
          refine takeR (i := 9) (v := (.int .i64 kt)) 104 rfl (by kernel_rfl) (by kernel_rfl) (by kernel_rfl) (by kernel_rfl) (fun _ _ _ h => h) (yields_pure (by kernel_rfl) (fun w => by kernel_rfl)) hS ?_
          refine takeR (i := 10) (v := (.pointer (some ⟨gt, kt * 3, none⟩))) 105 rfl (by kernel_rfl) (by kernel_rfl) (by kernel_rfl) (by kernel_rfl) (fun _ _ _ h => h) (yields_pure (by kernel_rfl) (fun w => exec_index 31 (.tmp 103) (.tmp 104) (by kernel_rfl) gt NT ct (by kernel_rfl) kt (by kernel_rfl) (by kernel_rfl) 3 (by kernel_rfl) hk)) hS ?_
          refine takeR (i := 11) (v := (.pointer (some ⟨gt, kt * 3 + 2, none⟩))) 106 rfl (by kernel_rfl) (by kernel_rfl) (by kernel_rfl) (by kernel_rfl) (fun _ _ _ h => h) (yields_pure (by kernel_rfl) (fun w => by kernel_rfl)) hS ?_
          refine takeR (i := 13) (v := (.int .i64 n)) 108 rfl (by kernel_rfl) (by kernel_rfl) (by kernel_rfl) (by kernel_rfl) (fun _ _ _ h => h) (yields_pure (by kernel_rfl) (fun w => by kernel_rfl)) hS ?_
          refine takeR (i := 14) (v := (.pointer (some ⟨x14, 1, none⟩))) 109 rfl (by kernel_rfl) (by kernel_rfl) (by kernel_rfl) (by kernel_rfl) (fun _ _ _ h => h) (yields_pure (by kernel_rfl) (fun w => by kernel_rfl)) hS ?_
          refine takeR (i := 15) 110 rfl (by kernel_rfl) (by kernel_rfl) (by kernel_rfl) (by kernel_rfl) (fun _ _ _ h => h) (yields_load_cell (by kernel_rfl) 3 _ rfl x14 1 (by kernel_rfl) (.int .i64 xg) (fun X h => h.2.1) _ Tryz.underlying3 rfl) hS ?_
          refine takeR (i := 16) (v := (.int .i64 at_)) 111 rfl (by kernel_rfl) (by kernel_rfl) (by kernel_rfl) (by kernel_rfl) (fun _ _ _ h => h) (yields_pure (by kernel_rfl) (fun w => by kernel_rfl)) hS ?_
          refine takeR (i := 17) (v := (.pointer (some ⟨x14, 2, none⟩))) 112 rfl (by kernel_rfl) (by kernel_rfl) (by kernel_rfl) (by kernel_rfl) (fun _ _ _ h => h) (yields_pure (by kernel_rfl) (fun w => by kernel_rfl)) hS ?_
          refine takeR (i := 18) 113 rfl (by kernel_rfl) (by kernel_rfl) (by kernel_rfl) (by kernel_rfl) (fun _ _ _ h => h) (yields_load_cell (by kernel_rfl) 3 _ rfl x14 2 (by kernel_rfl) (.int .i64 xs) (fun X h => h.2.2) _ Tryz.underlying3 rfl) hS ?_
          refine takeR (i := 19) (v := (.agg #[.int .i64 n, .int .i64 xg, .int .i64 at_, .int .i64 xs])) 114 rfl (by kernel_rfl) (by kernel_rfl) (by kernel_rfl) (by kernel_rfl) (fun _ _ _ h => h) (yields_pure (by kernel_rfl) (fun w => by kernel_rfl)) hS ?_
          refine wpAnyH_all (rs := [12, 20]) (by kernel_rfl) (by simp) ?_
          intro j hj
          obtain rfl | rfl : j = 12 ∨ j = 20 := by simpa using hj
          focus
            refine opR_run (v := .slice yA ybl.length yc) (w' := w3.drew) 107 rfl (by kernel_rfl) (by kernel_rfl) (exec_load_cell 94 (.tmp 106) (by kernel_rfl) gt (kt * 3 + 2) (by kernel_rfl) (.slice yA ybl.length yc) t2 _ Tryz.underlying94 rfl) ?_
            refine ⟨hS, ?_⟩
            refine wpAnyH_all (rs := [20]) (by kernel_rfl) (by simp) ?_
            intro j hj
            obtain rfl : j = 20 := by simpa using hj
            refine opR_run (v := .slice (some ⟨w3.drew.heap.size, 0, none⟩) 1 1) (w' := w3.drew.alloc (.cells #[.int .i64 n, .int .i64 xg, .int .i64 at_, .int .i64 xs] 96)) 115 rfl (by kernel_rfl) (by kernel_rfl) (by kernel_rfl) ?_
            refine ⟨hS1, ?_⟩
            refine wpAnyH_all (rs := [21]) (by kernel_rfl) (by simp) ?_
            intro j hj
            obtain rfl : j = 21 := by simpa using hj
            refine opR_run (v := .slice A2 n2 c2) (w' := w') 116 rfl (by kernel_rfl) (by kernel_rfl) (exec_append_run (.tmp 107) (.tmp 115) 94 94 (by kernel_rfl) (.slice yA ybl.length yc) (.slice (some ⟨w3.drew.heap.size, 0, none⟩) 1 1) (by kernel_rfl) (by kernel_rfl) HR.out) ?_
            refine ⟨hS2, ?_⟩
            refine takeR (i := 22) (v := (.pointer (some ⟨gt, kt * 3, none⟩))) 117 rfl (by kernel_rfl) (by kernel_rfl) (by kernel_rfl) (by kernel_rfl) (fun _ _ _ h => h) (yields_pure (by kernel_rfl) (fun w => exec_index 31 (.tmp 98) (.tmp 99) (by kernel_rfl) gt NT ct (by kernel_rfl) kt (by kernel_rfl) (by kernel_rfl) 3 (by kernel_rfl) hk)) hS2 ?_
            refine takeR (i := 23) (v := (.pointer (some ⟨gt, kt * 3 + 2, none⟩))) 118 rfl (by kernel_rfl) (by kernel_rfl) (by kernel_rfl) (by kernel_rfl) (fun _ _ _ h => h) (yields_pure (by kernel_rfl) (fun w => by kernel_rfl)) hS2 ?_
            refine wpAnyH_all (rs := [24]) (by kernel_rfl) (by simp) ?_
            intro j hj
            obtain rfl : j = 24 := by simpa using hj
            refine opR_slice rfl (by kernel_rfl) (by kernel_rfl) 94 (.tmp 118) (.tmp 116) (by kernel_rfl) gt (kt * 3 + 2) A2 n2 c2 (.slice yA ybl.length yc) (by kernel_rfl) (by kernel_rfl) t2' fz (by kernel_rfl) ?_
            refine ⟨hS3, ?_⟩
            refine wpAnyH_done (by kernel_rfl) ?_ _
            refine NoPanic.normal ?_
            simp only [Act.put, List.setIfInBounds_toArray, List.set_cons_succ, List.set_cons_zero]
            clear hS hS1 hS2 hS3
            go_wp2_with fail
            go_ret2
            exact HF.out
          focus
            refine opR_run (v := .slice (some ⟨w3.drew.heap.size, 0, none⟩) 1 1) (w' := w3.drew.alloc (.cells #[.int .i64 n, .int .i64 xg, .int .i64 at_, .int .i64 xs] 96)) 115 rfl (by kernel_rfl) (by kernel_rfl) (by kernel_rfl) ?_
            refine ⟨hS1, ?_⟩
            refine wpAnyH_all (rs := [12]) (by kernel_rfl) (by simp) ?_
            intro j hj
            obtain rfl : j = 12 := by simpa using hj
            refine opR_run (v := .slice yA ybl.length yc) (w' := w3.drew.alloc (.cells #[.int .i64 n, .int .i64 xg, .int .i64 at_, .int .i64 xs] 96)) 107 rfl (by kernel_rfl) (by kernel_rfl) (exec_load_cell 94 (.tmp 106) (by kernel_rfl) gt (kt * 3 + 2) (by kernel_rfl) (.slice yA ybl.length yc) t2a _ Tryz.underlying94 rfl) ?_
            refine ⟨hS1, ?_⟩
            refine wpAnyH_all (rs := [21]) (by kernel_rfl) (by simp) ?_
            intro j hj
            obtain rfl : j = 21 := by simpa using hj
            refine opR_run (v := .slice A2 n2 c2) (w' := w') 116 rfl (by kernel_rfl) (by kernel_rfl) (exec_append_run (.tmp 107) (.tmp 115) 94 94 (by kernel_rfl) (.slice yA ybl.length yc) (.slice (some ⟨w3.drew.heap.size, 0, none⟩) 1 1) (by kernel_rfl) (by kernel_rfl) HR.out) ?_
            refine ⟨hS2, ?_⟩
            refine takeR (i := 22) (v := (.pointer (some ⟨gt, kt * 3, none⟩))) 117 rfl (by kernel_rfl) (by kernel_rfl) (by kernel_rfl) (by kernel_rfl) (fun _ _ _ h => h) (yields_pure (by kernel_rfl) (fun w => exec_index 31 (.tmp 98) (.tmp 99) (by kernel_rfl) gt NT ct (by kernel_rfl) kt (by kernel_rfl) (by kernel_rfl) 3 (by kernel_rfl) hk)) hS2 ?_
            refine takeR (i := 23) (v := (.pointer (some ⟨gt, kt * 3 + 2, none⟩))) 118 rfl (by kernel_rfl) (by kernel_rfl) (by kernel_rfl) (by kernel_rfl) (fun _ _ _ h => h) (yields_pure (by kernel_rfl) (fun w => by kernel_rfl)) hS2 ?_
            refine wpAnyH_all (rs := [24]) (by kernel_rfl) (by simp) ?_
            intro j hj
            obtain rfl : j = 24 := by simpa using hj
            refine opR_slice rfl (by kernel_rfl) (by kernel_rfl) 94 (.tmp 118) (.tmp 116) (by kernel_rfl) gt (kt * 3 + 2) A2 n2 c2 (.slice yA ybl.length yc) (by kernel_rfl) (by kernel_rfl) t2' fz (by kernel_rfl) ?_
            refine ⟨hS3, ?_⟩
            refine wpAnyH_done (by kernel_rfl) ?_ _
            refine NoPanic.normal ?_
            simp only [Act.put, List.setIfInBounds_toArray, List.set_cons_succ, List.set_cons_zero]
            clear hS hS1 hS2 hS3
            go_wp2_with fail
            go_ret2
            exact HF.out
        · have HE : Hid (DAddrE r q d L Y B w id n off (.returned (.tuple #[.int .i64 0, .int .i64 e1])) w2) := Lib.hid ⟨_, _, _, _, daddr_no HF1.out HF2.out HNA.out hst HNB.out HMP.out he, rfl, by
            have h5 := Dl.give (r := r) (d := d) (y := ⟨yid, ytp, yA, yc, ybl⟩) M3.out
            rw [← H1.out] at h5
            exact h5.norm (Star (Cel r 33 d.arr) (Star (Mods d.vm d.ml) (Star (Gens d.vg d.gl) (Star (Thrs d.vt d.tl) (Star (All dtR d.tl) (Star (Rf q L1) Y))))))⟩
          clear M3
          go_wp2
          go_ret2
          exact HE.out
end Go.Proofs.YtpenejigebkkmaaGreat
