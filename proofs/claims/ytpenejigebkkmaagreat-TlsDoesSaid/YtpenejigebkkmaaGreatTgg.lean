/-
  Layer 17, the document's side: Exit.
  Layer 17, the document's side: fill.
  Conditions: none. (My own text.)
-/
import Derived.Test.YtpenejigebkkmaaGreatTge
import Derived.Test.YtpenejigebkkmaaGreatRf2
import Derived.Test.YtpenejigebkkmaaGreatTmj
import Derived.Laws.IdiomStrings
namespace Go.Proofs.YtpenejigebkkmaaGreat
open Go.RowKit Spm
set_option linter.unusedVariables false
set_option linter.unusedSimpArgs false
attribute [local irreducible] wpList

theorem Has.appendPart {α : Type} {T : TypeId} {n : Nat} {cells : α → List Value} {t : TypeId} {bytes : Nat} (R : RowT Tryz.prog t T n bytes cells) {B : Nat} {w W : World} {Y : Res} [hY : Fr Y] {v0 v : Value} {la l : List α} (h : Has B w W (Star (Rws T n cells v0 la) (Star (Rws T n cells v l) Y))) {g c N : Nat} (hv : v = .slice (some ⟨g, 0, none⟩) N c) (lo : Nat) (lb : List α) (A : Option Addr) (off : Nat) (hoff : off = lo * n) (hlb : ∀ i x, lb[i]? = some x → A = some ⟨g, off, none⟩ ∧ l[lo + i]? = some x) (hl : la.length + lb.length ≤ 1000000) (cap : Nat) (ty : TypeId) :
    ∃ v' w', (Builtin.append_ #[t, t] ty #[v0, .slice A lb.length cap]).run Tryz.prog W = .ok v' w' ∧ Has B w w' (Star (Rws T n cells v' (la ++ lb)) (Star (Rws T n cells v l) Y)) := by
  obtain ⟨A', c', hv', -, -, hrow⟩ := Has.rwsv R.len h.swap
  obtain ⟨v', w', hr, ho, hg, hloc⟩ := run_append_rows R h.rwsOwn A cap lb (fun i x hi => by
    obtain ⟨hAA, hi'⟩ := hlb i x hi
    obtain ⟨g', hA, -, hcell⟩ := hrow _ _ hi'
    subst hA
    rw [hv] at hv'
    cases hv'
    refine ⟨g, off, hAA, fun j u hu => ?_⟩
    have h9 := hcell j u hu
    rw [Nat.add_mul, ← hoff] at h9
    exact h9) hl ty
  exact ⟨v', w', hr, h.grew ho hg hloc⟩
theorem Has.rwsLive {α : Type} {T : TypeId} {n : Nat} {cells : α → List Value} {B : Nat} {w wr : World} {X : Res} {g c N : Nat} {l : List α} (h : Has B w wr (Star (Rws T n cells (.slice (some ⟨g, 0, none⟩) N c) l) X)) (k : Nat) : wr.frozen? ⟨g, k, none⟩ = false := by
  obtain ⟨F, ⟨F1, F2, h1, h2⟩, h3⟩ := h.own
  rcases h1.1.2 with ⟨hv, -⟩ | ⟨g', cap, cur, hv, hb, hg, -⟩
  · cases hv
  · cases hv
    have hB : Blk wr g T cur := hg
    exact hB.free k
theorem opR_slice {P : Program} {ops : Array Oper} {o : Oper} {a : Go.Act} {Q : Exit → Go.Act → World → Prop} {i : Nat} {w : World} {K : Go.Act → World → Prop} (hi : ops[i]? = some o) (hd : o.dst = none) (hgd : o.guard = none) (ty : TypeId) (x y : Operand) (ho : o.op = .store ty x y) (g k : Nat) (A : Option Addr) (len cap : Nat) (old : Value) (hx : a.eval x = .pointer (some ⟨g, k, none⟩)) (hy : a.eval y = .slice A len cap) (hc : w.cell? ⟨g, k, none⟩ = some old) (hf : w.frozen? ⟨g, k, none⟩ = false) (hs : (P.info? ty).map (·.size) = some 1) (h : K (a.put none undef) (w.setCell ⟨g, k, none⟩ (.slice A len cap))) : wpOp P ops Q i K a w :=
  opR_skip hi hd hgd (by
    have hz : (sizeOf ty).run P w = .ok 1 w := by
      cases hq : P.info? ty with
      | none => simp [hq] at hs
      | some i =>
        have : i.size = 1 := by simpa [hq] using hs
        simp [sizeOf, typeInfo, hq, this]
    have hadd : (⟨g, k, none⟩ : Addr).add 0 = ⟨g, k, none⟩ := rfl
    have hst : (store ⟨g, k, none⟩ (.slice A len cap)).run P w = .ok () (w.setCell ⟨g, k, none⟩ (.slice A len cap)) := by
      rw [run_store _ _ _ _ _ rfl, hc]
      simp [hf]
    unfold execOp
    simp [ho, hx, hy, Instr.storeAt, Instr.sureAddr, storeVar, hz, Value.cells, storeCells, hadd, hst]) h
abbrev DlX (r : Nat) (d : Dt) (tl : List DT) (Y : Res) : Res := Star (Cel r 33 d.arr) (Star (Mods d.vm d.ml) (Star (Gens d.vg d.gl) (Star (Thrs d.vt d.tl) (Star (All dtR tl) Y))))
theorem Dl.take {B : Nat} {w wr : World} {Y : Res} {r : Nat} {d : Dt} {y : DT} {l1 l2 : List DT} (h : Has B w wr (Dl r d Y)) (e : d.tl = l1 ++ y :: l2) : Has B w wr (Star (Blks (dtV y) y.bl) (DlX r d (l1 ++ l2) Y)) := by
  refine h.imp fun F hh => ?_
  have h2 : Star (Cel r 33 d.arr) (Star (Mods d.vm d.ml) (Star (Gens d.vg d.gl) (Star (Thrs d.vt d.tl) (Star (Blks (dtV y) y.bl) (Star (All dtR (l1 ++ l2)) Y))))) wr F := Star.under (fun _ => Star.under fun _ => Star.under fun _ => Star.under fun _ => all_out_of e) hh
  exact (Star.swap (Star.under (fun _ => Star.swap) (Star.under (fun _ => Star.under fun _ => Star.swap) (Star.under (fun _ => Star.under fun _ => Star.under fun _ => Star.swap) h2))))
theorem Dl.give {B : Nat} {w wr : World} {Y : Res} {r : Nat} {d : Dt} {y : DT} {l1 l2 : List DT} (h : Has B w wr (Star (Blks (dtV y) y.bl) (DlX r d (l1 ++ l2) Y))) : Has B w wr (DlX r d (l1 ++ y :: l2) Y) := by
  refine h.imp fun F hh => ?_
  have h2 : Star (Cel r 33 d.arr) (Star (Mods d.vm d.ml) (Star (Gens d.vg d.gl) (Star (Thrs d.vt d.tl) (Star (dtR y) (Star (All dtR (l1 ++ l2)) Y))))) wr F := Star.under (fun _ => Star.under fun _ => Star.under fun _ => Star.swap) (Star.under (fun _ => Star.under fun _ => Star.swap) (Star.under (fun _ => Star.swap) (Star.swap hh)))
  exact Star.under (fun _ => Star.under fun _ => Star.under fun _ => Star.under fun _ => all_put) h2
theorem efind_split_of {α : Type} {key : α → Int} {k : Int} {x : α} {l2 : List α} : ∀ {l1 : List α}, (∀ y ∈ l1, decide (key y = k) = false) → decide (key x = k) = true → efind key (l1 ++ x :: l2) k = some x ∧ edel key (l1 ++ x :: l2) k = l1 ++ l2
  | [], h1, h2 => by
    have e : k = key x := (of_decide_eq_true h2).symm
    constructor
    · show efind key (x :: l2) k = some x
      unfold efind
      rw [if_pos e]
    · show edel key (x :: l2) k = l2
      unfold edel
      rw [if_pos e]
  | z :: l1, h1, h2 => by
    have e : ¬ k = key z := fun e => by have := h1 z (by simp); rw [← e] at this; simp at this
    obtain ⟨i1, i2⟩ := efind_split_of (l1 := l1) (l2 := l2) (fun y hy => h1 y (by simp [hy])) h2
    constructor
    · show efind key (z :: (l1 ++ x :: l2)) k = some x
      unfold efind
      rw [if_neg e, i1]
    · show edel key (z :: (l1 ++ x :: l2)) k = z :: (l1 ++ l2)
      unfold edel
      rw [if_neg e, i2]
theorem efind_none_of' {α : Type} {key : α → Int} {k : Int} {l : List α} (h : ∀ y ∈ l, decide (key y = k) = false) : efind key l k = none := efind_none_of (fun y hy => of_decide_eq_false (h y hy))
def DExitE (r q : Nat) (d : Dt) (L : List Rg) (Y : Res) (B : Nat) (w : World) (id : Int) (e : Ending) (w' : World) : Prop := ∃ n d' L', DExitP d L id n d' L' ∧ e = .returned (.int .i64 n) ∧ Has B w w' (Dl r d' (Star (Rf q L') Y))
set_option maxRecDepth 100000 in
set_option maxHeartbeats 4000000 in
theorem rexit_any {B : Nat} {w wr : World} {Y : Res} [hY : Fr Y] {r q : Nat} {d : Dt} {L : List Rg} (h : Has B w wr (Dl r d (Star (Rf q L) Y))) (htl : d.tl.length ≤ 1000) (hbl : ∀ y ∈ d.tl, y.bl.length ≤ 1000) (id : Int) : Calls Tryz.prog 30 #[.pointer (some ⟨r, 0, none⟩), .pointer (some ⟨q, 0, none⟩), .int .i64 id] wr (DExitE r q d L Y B w id) := by
  have C1 := Lib.hid (rthread_any h id)
  have M0 := Lib.hid h
  rcases idxI_cases (fun x : DT => decide (x.id = id)) d.tl with ⟨h1, h2⟩ | ⟨l1, y, l2, h1, h2, h3, h4⟩
  · have hm : tIdx d.tl id = -1 := h1
    rw [hm] at C1
    have HE : Hid (DExitE r q d L Y B w id (.returned (.int .i64 171)) wr) := Lib.hid ⟨171, d, L, by unfold DExitP; rw [efind_none_of' h2]; exact ⟨rfl, rfl, rfl⟩, rfl, h⟩
    clear h h1 h2 hm M0
    go_enter Tryz.func30, Tryz.ntmps30
    go_wp2_with fail
    refine (C1.out).mono ?_
    rintro e w1 ⟨rfl, rfl⟩
    go_wp2
    go_ret
    exact HE.out
  · have hm : tIdx d.tl id = (l1.length : Nat) := h2
    rw [hm] at C1
    obtain ⟨f1, f2⟩ := efind_split_of (l2 := l2) h4 h3
    rw [← h1] at f1 f2
    have HE : Hid (∀ w' vt, Has B w w' (Dl r { d with tl := l1 ++ l2, vt := vt } (Star (Rf q (unmapS (unmapsS L (y.bl.map fun b => b.at_)) y.tp).1) Y)) → DExitE r q d L Y B w id (.returned (.int .i64 0)) w') := Lib.hid (fun w' vt hh => ⟨0, _, _, by unfold DExitP; rw [f1]; exact ⟨rfl, rfl, vt, rfl⟩, rfl, by rw [f2]; exact hh⟩)
    have hk : l1.length < d.tl.length := by rw [h1]; simp
    have hx : d.tl[l1.length]? = some y := by rw [h1, List.getElem?_append_right (Nat.le_refl _), Nat.sub_self]; rfl
    have hyb := hbl y (by rw [h1]; simp)
    obtain ⟨yid, ytp, yA, yc, ybl⟩ := y
    have HV := Lib.hid (fun (w' : World) (X : Res) (m : Has B w w' (Star (Thrs d.vt d.tl) X)) => Has.rwsv dt_rowT.len m)
    obtain ⟨A, c, hv, hlc, hcm, hrow⟩ := HV.out _ _ (h.pick (Thrs d.vt d.tl))
    obtain ⟨g, hA, -, -⟩ := hrow _ _ hx
    subst hA
    have HVT := Lib.hid hv
    have HX := Lib.hid hx
    have HCE : Hid (∀ (w' : World) (X : Res), Has B w w' (Star (Thrs d.vt d.tl) X) → w'.cell? ⟨g, l1.length * 3 + 1, none⟩ = some (.int .i64 ytp) ∧ w'.cell? ⟨g, l1.length * 3 + 2, none⟩ = some (.slice yA ybl.length yc)) := Lib.hid (fun w' X m => by
      obtain ⟨A', c', hv', -, -, hrow'⟩ := HV.out _ _ m
      rw [HVT.out] at hv'
      cases hv'
      obtain ⟨g', hA', -, hcell⟩ := hrow' _ _ HX.out
      cases hA'
      exact ⟨hcell 1 _ rfl, hcell 2 _ rfl⟩)
    have M1 := Lib.hid (Dl.take h h1)
    have H1 := Lib.hid h1
    obtain ⟨N, hN⟩ : ∃ N, d.tl.length = N := ⟨_, rfl⟩
    have HN := Lib.hid hN
    have HN2 : Hid (N = l1.length + 1 + l2.length) := Lib.hid (by rw [← hN, h1]; simp; omega)
    rw [hN] at hk htl
    clear h hrow hm h2 h3 h4 f1 f2 hbl hx hv M0 h1 hN
    go_enter Tryz.func30, Tryz.ntmps30
    go_wp2_with fail
    refine (C1.out).mono ?_
    rintro e w1 ⟨rfl, rfl⟩
    clear C1
    have s2 : wr.cell? ⟨r, 2, none⟩ = some (.slice (some ⟨g, 0, none⟩) N c) := by rw [← HN.out, ← HVT.out]; exact M1.out.cellat r 2 rfl
    obtain ⟨t1, t2⟩ := HCE.out wr _ (M1.out.pick (Thrs d.vt d.tl))
    have hcN : N ≤ c := by rw [← HN.out]; exact hlc
    unfold maxLen at hcm
    clear hlc
    generalize hkk : l1.length = k at t1 t2 hk ⊢
    have HKK := Lib.hid hkk
    clear t1 hkk
    go_wp2_with fail
    clear s2 t2
    go_loopw [25] (fun i wr => ∃ j : Nat, j ≤ ybl.length ∧ i = .int .i64 j ∧ Hid (Has B w wr (Star (Blks (.slice yA ybl.length yc) ybl) (DlX r d (l1 ++ l2) (Star (Rf q (unmapsS L ((ybl.take j).map fun b => b.at_))) Y))))) (fun i _ => ybl.length - (intOf i).toNat)
    case atStart => exact ⟨0, Nat.zero_le _, rfl, M1⟩
    case round =>
      obtain ⟨j, hj, rfl, hM⟩ := hrel
      clear M1
      by_cases hlt : j < ybl.length
      · obtain ⟨b, hbj⟩ : ∃ b, ybl[j]? = some b := ⟨_, List.getElem?_eq_getElem hlt⟩
        obtain ⟨A2, c2, hv2, -, -, hrow2⟩ := Has.rwsv rb_rowT.len hM.out
        cases hv2
        obtain ⟨bg, hbA, hbl2, hcb⟩ := hrow2 j b hbj
        subst hbA
        have cel : ∀ j' v, (#[.int .i64 b.md, .int .i64 b.gn, .int .i64 b.at_, .int .i64 b.sz] : Array Value).toList[j']? = some v → wr.cell? ⟨bg, j * 4 + j', none⟩ = some v := fun j' v hv => hcb j' v hv
        have HBJ := Lib.hid hbj
        have Na := Lib.hid (hM.out.newcel 96 #[.int .i64 0, .int .i64 0, .int .i64 0, .int .i64 0])
        have Nb := Lib.hid (Na.out.rowc wr.heap.size #[.int .i64 b.md, .int .i64 b.gn, .int .i64 b.at_, .int .i64 b.sz])
        clear hrow2 hcb hbj
        go_upto_region 7 with (first | (refine wpList_partW rfl 96 _ rfl bg (j * 4) rfl #[.int .i64 b.md, .int .i64 b.gn, .int .i64 b.at_, .int .i64 b.sz] _ cel Tryz.underlying96 rfl (by kernel_rfl) ?_) | (refine wpList_store_row rfl 96 _ _ rfl wr.heap.size #[.int .i64 b.md, .int .i64 b.gn, .int .i64 b.at_, .int .i64 b.sz] rfl rfl 96 #[.int .i64 0, .int .i64 0, .int .i64 0, .int .i64 0] (Na.out.getc wr.heap.size) (by kernel_rfl) rfl (by kernel_rfl) ?_))
        obtain ⟨W1, hW⟩ : ∃ W1, (wr.alloc (.cells #[.int .i64 0, .int .i64 0, .int .i64 0, .int .i64 0] 96)).setRow wr.heap.size #[.int .i64 b.md, .int .i64 b.gn, .int .i64 b.at_, .int .i64 b.sz] = W1 := ⟨_, rfl⟩
        rw [hW] at Nb ⊢
        clear hW Na hM cel
        generalize wr.heap.size = x9 at Nb ⊢
        have b2 : W1.cell? ⟨x9, 2, none⟩ = some (.int .i64 b.at_) := Nb.out.cellat x9 2 rfl
        have C2 := Lib.hid (own_runmap (Nb.out.pick (Rf q (unmapsS L ((ybl.take j).map fun b => b.at_)))) b.at_)
        clear Nb
        go_wp2_with fail
        refine (C2.out).mono ?_
        rintro e w3 ⟨rfl, m⟩
        have M3 : Hid (Has B w w3 (Star (Blks (.slice (some ⟨bg, 0, none⟩) ybl.length yc) ybl) (DlX r d (l1 ++ l2) (Star (Rf q (unmapsS L ((ybl.take (j + 1)).map fun b => b.at_))) Y)))) := Lib.hid (by
          have h9 : (ybl.take (j + 1)).map (fun b => b.at_) = (ybl.take j).map (fun b => b.at_) ++ [b.at_] := by
            rw [List.take_add_one, HBJ.out, List.map_append]; rfl
          rw [h9, unmapsS_snoc]
          exact m.norm (Star (Blks (.slice (some ⟨bg, 0, none⟩) ybl.length yc) ybl) (DlX r d (l1 ++ l2) (Star (Rf q (unmapS (unmapsS L ((ybl.take j).map fun b => b.at_)) b.at_).1) Y))))
        clear m C2
        go_wp2_with fail
        go_roundw
        case rel => exact ⟨j + 1, by omega, by go_num, M3⟩
        case measure => simp [intOf]; omega
      · obtain rfl : j = ybl.length := by omega
        have M4 := hM
        rw [List.take_length] at M4
        obtain ⟨LL, hLL⟩ : ∃ LL, unmapsS L (ybl.map fun b => b.at_) = LL := ⟨_, rfl⟩
        rw [hLL] at M4
        have HLL := Lib.hid hLL
        clear hM hLL
        have s2 : wr.cell? ⟨r, 2, none⟩ = some (.slice (some ⟨g, 0, none⟩) N c) := by rw [← HN.out, ← HVT.out]; exact M4.out.cellat r 2 rfl
        have t1 : wr.cell? ⟨g, k * 3 + 1, none⟩ = some (.int .i64 ytp) := by rw [← HKK.out]; exact (HCE.out wr _ (M4.out.pick (Thrs d.vt d.tl))).1
        have C3 := Lib.hid (own_runmap (M4.out.pick (Rf q LL)) ytp)
        clear M4
        go_wp2_with fail
        refine (C3.out).mono ?_
        rintro e w3 ⟨rfl, m⟩
        clear C3 s2 t1
        have M5 := Lib.hid (m.norm (Star (Thrs d.vt d.tl) (Star (Blks (.slice yA ybl.length yc) ybl) (Star (Cel r 33 d.arr) (Star (Mods d.vm d.ml) (Star (Gens d.vg d.gl) (Star (All dtR (l1 ++ l2)) (Star (Rf q (unmapS LL ytp).1) Y))))))))
        clear m
        have M6 := Lib.hid (Has.rwsNil (T := 109) (n := 3) (cells := dtC) M5.out)
        have s2 : w3.cell? ⟨r, 2, none⟩ = some (.slice (some ⟨g, 0, none⟩) N c) := by rw [← HN.out, ← HVT.out]; exact M5.out.cellat r 2 rfl
        obtain ⟨v1, w4, hr1, m1⟩ := Has.appendPart dt_rowT M6.out HVT.out 0 l1 (some ⟨g, 0, none⟩) 0 rfl (fun i x hi => ⟨rfl, by rw [H1.out, Nat.zero_add, List.getElem?_append_left (List.getElem?_eq_some_iff.1 hi).1]; exact hi⟩) (by simp only [List.length_nil]; have := HN2.out; omega) c 31
        have HR1 := Lib.hid hr1
        rw [HKK.out] at HR1
        have M7 := Lib.hid m1
        clear hr1 m1 M6 M5
        go_upto_region 12 with (at_builtin; refine Lib.wpList_append_run _ rfl _ _ _ _ rfl _ _ rfl rfl _ _ HR1.out ?_)
        clear s2 HR1
        have s2 : w4.cell? ⟨r, 2, none⟩ = some (.slice (some ⟨g, 0, none⟩) N c) := by rw [← HN.out, ← HVT.out]; exact M7.out.cellat r 2 rfl
        obtain ⟨v2, w5, hr2, m2⟩ := Has.appendPart dt_rowT M7.out HVT.out (k + 1) l2 (if c = k + 1 then some ⟨g, 0, none⟩ else some ⟨g, (k + 1) * 3, none⟩) ((k + 1) * 3) rfl (fun i x hi => ⟨if_neg (by have := (List.getElem?_eq_some_iff.1 hi).1; have := HN2.out; have := HKK.out; omega), by rw [H1.out, ← HKK.out, List.getElem?_append_right (by omega), show l1.length + 1 + i - l1.length = i + 1 by omega, List.getElem?_cons_succ]; exact hi⟩) (by simp only [List.length_nil, List.nil_append]; have := HN2.out; omega) (c - (k + 1)) 31
        have HR2 := Lib.hid hr2
        rw [show l2.length = N - (k + 1) by have := HN2.out; have := HKK.out; omega] at HR2
        rw [List.nil_append] at m2
        have M8 := Lib.hid m2
        clear hr2 m2 M7
        go_upto_region 13 with (at_builtin; refine Lib.wpList_append_run _ rfl _ _ _ _ rfl _ _ rfl rfl _ _ HR2.out ?_)
        clear s2 HR2
        generalize (if c = k + 1 then (some ⟨g, 0, none⟩ : Option Addr) else some ⟨g, (k + 1) * 3, none⟩) = A9
        obtain ⟨A2, c2, hv2, -, -, -⟩ := Has.rwsv dt_rowT.len M8.out
        generalize l1 ++ l2 = l12 at hv2 M8 HE ⊢
        generalize l12.length = n12 at hv2
        subst hv2
        have s2 : w5.cell? ⟨r, 2, none⟩ = some d.vt := M8.out.cellat r 2 rfl
        have f2 : w5.frozen? ⟨r, 2, none⟩ = false := M8.out.liveat r 2
        have M9 := Lib.hid (M8.out.cellc r 2 (.slice A2 n12 c2) { d with tl := l12, vt := (.slice A2 n12 c2) }.arr rfl)
        have HF : Hid (DExitE r q d L Y B w id (.returned (.int .i64 0)) (w5.setCell ⟨r, 2, none⟩ (.slice A2 n12 c2))) := Lib.hid (HE.out _ (.slice A2 n12 c2) (by
          rw [HLL.out]
          exact M9.out.norm (Star (Cel r 33 { d with tl := l12, vt := (.slice A2 n12 c2) }.arr) (Star (Mods d.vm d.ml) (Star (Gens d.vg d.gl) (Star (Thrs (.slice A2 n12 c2) (l12)) (Star (All dtR (l12)) (Star (Rf q (unmapS LL ytp).1) Y))))))))
        clear M9 M8
        go_wp2_with fail
        go_ret
        exact HF.out
end Go.Proofs.YtpenejigebkkmaaGreat

namespace Go.Proofs.YtpenejigebkkmaaGreat
open Go.RowKit Spm
set_option linter.unusedVariables false
set_option linter.unusedSimpArgs false
attribute [local irreducible] wpList

/-- A block as it is. -/
def Raw (g : Nat) (o : Obj) : Res := fun w F => w.heap[g]? = some o ∧ F g
theorem raw_lt {w : World} {g : Nat} {o : Obj} (h : w.heap[g]? = some o) : g < w.heap.size := (Array.getElem?_eq_some_iff.1 h).1
instance fr_raw (g : Nat) (o : Obj) : Fr (Raw g o) := ⟨fun ⟨h, hf⟩ hk => ⟨(hk g hf (raw_lt h)).trans h, hf⟩, fun ⟨h, hf⟩ hm => ⟨h, hm g hf (raw_lt h)⟩⟩
theorem Has.rawNew {B : Nat} {w wr : World} {Y : Res} [Fr Y] (h : Has B w wr Y) (o : Obj) : Has B w (wr.drew.alloc o) (Star (Raw wr.heap.size o) Y) :=
  h.add (((Below.refl _ _).drew).alloc (Nat.le_refl _) _) ⟨heap_alloc_new wr.drew o, Nat.le_refl _⟩
theorem AwayB.of_raw {B : Nat} {wr : World} {g n : Nat} {b : List UInt8} {T : TypeId} {fr : Nat × Nat} {Y : Res} : AwayB (some ⟨g, 0, none⟩) b B wr (Star (Raw g (.cells (bytesRow (strB b) n) T fr)) Y) := by
  intro F G hY hd hB hn
  obtain ⟨G1, G2, ⟨hb, hg⟩, _, _, hs, _⟩ := hY
  refine ⟨g, 0, rfl, fun hf => hd g hf (hs g hg), raw_lt hb, fun j x hj => ?_⟩
  rw [Nat.zero_add]
  have hlt := (List.getElem?_eq_some_iff.1 hj).1
  have h1 : (bytesRow (strB b) n)[j]? = some (byC x) := by
    unfold bytesRow strB
    rw [Array.getElem?_append_left (by simpa using hlt)]
    simp [hj, byC]
  simp [World.cell?, hb, h1]
theorem strB_len (l : List UInt8) : (strB l).size = l.length := by unfold strB; rfl
theorem strB_nil : strB [] = ⟨#[]⟩ := rfl
theorem strB_ne {l : List UInt8} (h : l ≠ []) : ¬ strB l = ⟨#[]⟩ := fun e => h (by
  have h1 := strB_len l
  rw [e] at h1
  exact List.eq_nil_of_length_eq_zero h1.symm)
set_option maxRecDepth 100000 in
set_option maxHeartbeats 4000000 in
theorem rfill_any {B : Nat} {w wr : World} {Y : Res} [hY : Fr Y] {q : Nat} {L : List Rg} (h : Has B w wr (Star (Rf q L) Y)) (at_ : Int) (hat : I64 at_) (x : DM) (htm : x.tm.length ≤ 9223372036854775807) : Calls Tryz.prog 56 #[.pointer (some ⟨q, 0, none⟩), .int .i64 at_, .agg (dmA x)] wr fun e w' => e = .returned (.tuple #[]) ∧ Has B w w' (Star (Rf q (fillS L at_ x)) Y) := by
  obtain ⟨xn, xg, xs, xb, tm, xst⟩ := x
  have M0 := Lib.hid h
  obtain ⟨S, hS⟩ : ∃ S, strB tm = S := ⟨_, rfl⟩
  have HS := Lib.hid hS
  have hsz := strB_len tm
  rw [hS] at hsz
  show Calls _ _ #[_, _, .agg #[.int .i64 xn, .int .i64 xg, .int .i64 xs, .int .i64 xb, .string (strB tm), .bool xst]] _ _
  rw [hS]
  have Na := Lib.hid (h.newcel 107 #[.int .i64 xn, .int .i64 xg, .int .i64 xs, .int .i64 xb, .string S, .bool xst])
  have x4 : (wr.alloc (.cells #[.int .i64 xn, .int .i64 xg, .int .i64 xs, .int .i64 xb, .string S, .bool xst] 107)).cell? ⟨wr.heap.size, 4, none⟩ = some (.string S) := Na.out.cellat _ 4 rfl
  clear h hS
  by_cases htn : tm = []
  · have hse : S.toList.isEmpty = true := by rw [← HS.out, htn, ByteArray.toList_eq]; rfl
    have HF : Hid (fillS L at_ ⟨xn, xg, xs, xb, tm, xst⟩ = L) := Lib.hid (by unfold fillS; rw [if_pos htn])
    clear htn
    go_enter Tryz.func56, Tryz.ntmps56
    go_wp2
    refine bodyPost_end (results_none rfl _ _ _) rfl ⟨rfl, ?_⟩
    rw [HF.out]
    exact Na.out.norm (Star (Rf q L) Y)
  · have hse : S.toList.isEmpty = false := by
      rw [← HS.out]
      cases hc : (strB tm).toList.isEmpty
      · rfl
      · rw [ByteArray.toList_eq] at hc
        exact absurd (by simpa [strB] using hc) htn
    have HF : Hid (fillS L at_ ⟨xn, xg, xs, xb, tm, xst⟩ = (setS L at_ tm 0).1) := Lib.hid (by unfold fillS; rw [if_neg htn])
    clear htn
    go_enter Tryz.func56, Tryz.ntmps56
    go_upto_region 2 with fail
    obtain ⟨W1, hW⟩ : ∃ W1, wr.alloc (.cells #[.int .i64 xn, .int .i64 xg, .int .i64 xs, .int .i64 xb, .string S, .bool xst] 107) = W1 := ⟨_, rfl⟩
    rw [hW] at Na x4 ⊢
    clear hW
    generalize wr.heap.size = x5 at Na x4 ⊢
    have kb := Go.run_bytes_of_string (P := Tryz.prog) W1 9 38 5 S Tryz.underlying9 Tryz.underlying38 Tryz.underlying5
    have N1 := Na.out.rawNew (.cells (bytesRow S (grownCap W1 S.size 0 5)) 5 ((bytesRow S (grownCap W1 S.size 0 5)).size, (bytesRow S (grownCap W1 S.size 0 5)).size + 1))
    have N2 := N1.norm (Star (Rf q L) (Star (Raw W1.heap.size (.cells (bytesRow S (grownCap W1 S.size 0 5)) 5 ((bytesRow S (grownCap W1 S.size 0 5)).size, (bytesRow S (grownCap W1 S.size 0 5)).size + 1))) Y))
    have C1 := own_rset N2 at_ hat (some ⟨W1.heap.size, 0, none⟩) (grownCap W1 S.size 0 5) tm htm 0 (.inl rfl) (by rw [← HS.out]; exact AwayB.of_raw)
    rw [← hsz] at C1
    have HC := Lib.hid C1
    have HSZ := Lib.hid hsz
    clear N1 N2 C1 hsz
    go_wp2_with fail
    refine (HC.out).mono ?_
    rintro e w3 ⟨rfl, m⟩
    go_wp2
    refine bodyPost_end (results_none rfl _ _ _) rfl ⟨rfl, ?_⟩
    rw [HF.out]
    exact m.norm (Star (Rf q (setS L at_ tm 0).1) Y)
end Go.Proofs.YtpenejigebkkmaaGreat
