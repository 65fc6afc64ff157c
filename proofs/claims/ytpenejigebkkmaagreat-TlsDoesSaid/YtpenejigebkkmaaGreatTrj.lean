/-
  Layer 17, the document's side: Blocks. Printed by gen_trj.py.
  Conditions: none. (My own text.)
-/
import Derived.Test.YtpenejigebkkmaaGreatTri
import Derived.Test.YtpenejigebkkmaaGreatTrf
namespace Go.Proofs.YtpenejigebkkmaaGreat
open Go.RowKit Spm
set_option linter.unusedVariables false
set_option linter.unusedSimpArgs false
attribute [local irreducible] wpList

def preB (ml : List DM) (y : DT) (k : Nat) : List Bk := (List.range' 1 k).flatMap fun (n : Nat) => dBlk1 ml y (n : Int)
theorem preB_snoc (ml : List DM) (y : DT) (k : Nat) : preB ml y (k + 1) = preB ml y k ++ dBlk1 ml y ((k + 1 : Nat) : Int) := by
  unfold preB
  rw [List.range'_1_concat, List.flatMap_append]
  simp [Nat.add_comm]
theorem dBlk1_len (ml : List DM) (y : DT) (n : Int) : (dBlk1 ml y n).length ≤ y.bl.length + 1 := by
  unfold dBlk1
  split
  · simp
  · rw [List.length_append]
    have := List.length_filter_le (fun b : Bk => decide (b.md = n)) y.bl
    split <;> simp <;> omega
theorem preB_len (ml : List DM) (y : DT) : ∀ k : Nat, (preB ml y k).length ≤ k * (y.bl.length + 1)
  | 0 => by simp [preB]
  | k + 1 => by
    rw [preB_snoc, List.length_append, Nat.add_mul, Nat.one_mul]
    have := preB_len ml y k
    have := dBlk1_len ml y ((k + 1 : Nat) : Int)
    omega
theorem dBlks_none {d : Dt} {id : Int} (h : efind DT.id d.tl id = none) : dBlks d id = [] := by unfold dBlks; rw [h]
theorem dBlks_some {d : Dt} {id : Int} {y : DT} (h : efind DT.id d.tl id = some y) : dBlks d id = preB d.ml y 64 := by unfold dBlks; rw [h]; rfl
def DBlksE (r : Nat) (d : Dt) (Y : Res) (B : Nat) (w : World) (id : Int) (e : Ending) (w' : World) : Prop := ∃ v, e = .returned v ∧ Has B w w' (Star (Blks v (dBlks d id)) (Dl r d Y))
set_option maxRecDepth 100000 in
set_option maxHeartbeats 8000000 in
theorem rblks_any {B : Nat} {w wr : World} {Y : Res} [hY : Fr Y] {r : Nat} {d : Dt} (h : Has B w wr (Dl r d Y)) (hbl : ∀ y ∈ d.tl, y.bl.length ≤ 1000) (id : Int) : Calls Tryz.prog 40 #[.pointer (some ⟨r, 0, none⟩), .int .i64 id] wr (DBlksE r d Y B w id) := by
  have C1 := Lib.hid (rthread_any h id)
  rcases idxI_cases (fun x : DT => decide (x.id = id)) d.tl with ⟨h1, h2⟩ | ⟨l1, y, l2, h1, h2, h3, h4⟩
  · have hm : tIdx d.tl id = -1 := h1
    rw [hm] at C1
    have HE : Hid (DBlksE r d Y B w id (.returned (.slice none 0 0)) wr) := Lib.hid ⟨_, rfl, by rw [dBlks_none (efind_none_of' h2)]; exact Has.rwsNil h⟩
    clear h h1 h2 hm hbl
    go_enter Tryz.func40, Tryz.ntmps40
    go_wp2_with fail
    refine (C1.out).mono ?_
    rintro e w1 ⟨rfl, rfl⟩
    clear C1
    go_wp2
    go_loop [5, 7] (fun v i => v = .slice none 0 0 ∧ i = .int .i64 1) (fun _ _ => 0)
    case atStart => exact ⟨rfl, rfl⟩
    case round =>
      obtain ⟨rfl, rfl⟩ := hrel
      go_wp2
      go_ret
      exact HE.out
  have hm : tIdx d.tl id = (l1.length : Nat) := h2
  rw [hm] at C1
  have f1 := (efind_split_of (l2 := l2) h4 h3).1
  rw [← h1] at f1
  have hk : l1.length < d.tl.length := by rw [h1]; simp
  have hx : d.tl[l1.length]? = some y := by rw [h1, List.getElem?_append_right (Nat.le_refl _), Nat.sub_self]; rfl
  have hyb0 := hbl y (by rw [h1]; simp)
  have HF1' := Lib.hid f1
  have H1 := Lib.hid h1
  obtain ⟨kt, hkt⟩ : ∃ kt, l1.length = kt := ⟨_, rfl⟩
  rw [hkt] at C1 hk hx
  obtain ⟨At, ct, hvt, hlt, hct, hrowt⟩ := Has.rwsv dt_rowT.len (h.pick (Thrs d.vt d.tl))
  obtain ⟨gt, hA, -, hct2⟩ := hrowt _ _ hx
  subst hA
  obtain ⟨NT, hNT⟩ : ∃ NT, d.tl.length = NT := ⟨_, rfl⟩
  rw [hNT] at hvt hlt hk
  have HVT := Lib.hid hvt
  have HX := Lib.hid hx
  obtain ⟨Am, cm, hvm, hlm, hcm, -⟩ := Has.rwsv dm_rowT.len (h.pick (Mods d.vm d.ml))
  obtain ⟨NM, hNM⟩ : ∃ NM, d.ml.length = NM := ⟨_, rfl⟩
  rw [hNM] at hvm hlm
  have HVM := Lib.hid hvm
  have HNM := Lib.hid hNM
  unfold maxLen at hct hcm
  obtain ⟨yid, ytp, yA, yc, ybl⟩ := y
  have hyb : ybl.length ≤ 1000 := hyb0
  have HE : Hid (∀ w' v, Has B w w' (Dl r d (Star (Blks v (preB d.ml ⟨yid, ytp, yA, yc, ybl⟩ 64)) Y)) → DBlksE r d Y B w id (.returned v) w') := Lib.hid (fun w' v hh => ⟨v, rfl, by
    rw [dBlks_some HF1'.out]
    exact hh.norm (Star (Blks v (preB d.ml ⟨yid, ytp, yA, yc, ybl⟩ 64)) (Star (Cel r 33 d.arr) (Star (Mods d.vm d.ml) (Star (Gens d.vg d.gl) (Star (Thrs d.vt d.tl) (Star (All dtR d.tl) Y))))))⟩)
  have HT : Hid (∀ W X, Has B w W (Star (Thrs d.vt d.tl) X) → W.cell? ⟨gt, kt * 3 + 1, none⟩ = some (.int .i64 ytp) ∧ W.cell? ⟨gt, kt * 3 + 2, none⟩ = some (.slice yA ybl.length yc)) := Lib.hid (fun W X m => by
    obtain ⟨A', c', hv', -, -, hrow'⟩ := Has.rwsv dt_rowT.len m
    rw [HVT.out] at hv'
    injection hv' with e1
    obtain ⟨g', hA', -, hcell⟩ := hrow' _ _ HX.out
    rw [← e1] at hA'
    cases hA'
    exact ⟨hcell 1 _ rfl, hcell 2 _ rfl⟩)
  have M0 : Hid (Has B w wr (Dl r d (Star (Blks (.slice none 0 0) (preB d.ml ⟨yid, ytp, yA, yc, ybl⟩ 0)) Y))) := Lib.hid ((Has.rwsNil (T := 96) (n := 4) (cells := rbC) h).norm (Star (Cel r 33 d.arr) (Star (Mods d.vm d.ml) (Star (Gens d.vg d.gl) (Star (Thrs d.vt d.tl) (Star (All dtR d.tl) (Star (Blks (.slice none 0 0) []) Y)))))))
  clear h h1 h2 h3 h4 hm f1 hx hbl hkt hvt hNT hvm hNM hrowt hct2 hyb0
  go_enter Tryz.func40, Tryz.ntmps40
  go_wp2_with fail
  refine (C1.out).mono ?_
  rintro e w1 ⟨rfl, rfl⟩
  clear C1
  go_wp2
  go_loopw [5, 7] (fun v i wr => ∃ k : Nat, k ≤ 64 ∧ i = .int .i64 ((k + 1 : Nat) : Int) ∧ ∃ A9 n9 c9, v = .slice A9 n9 c9 ∧ Hid (Has B w wr (Dl r d (Star (Blks (.slice A9 n9 c9) (preB d.ml ⟨yid, ytp, yA, yc, ybl⟩ k)) Y)))) (fun _ i _ => 65 - (intOf i).toNat)
  case atStart => exact ⟨0, by omega, rfl, none, 0, 0, rfl, M0⟩
  case round =>
    obtain ⟨k, hk6, rfl, A9, n9, c9, rfl, M1⟩ := hrel
    clear M0
    by_cases hk7 : k < 64
    · obtain ⟨K, hK⟩ : ∃ K : Int, ((k + 1 : Nat) : Int) = K := ⟨_, rfl⟩
      have HK := Lib.hid hK
      have hK1 : 1 ≤ K := by omega
      have hK2 : K ≤ 64 := by omega
      rw [hK]
      clear hK
      have CM := Lib.hid (rmodule_any M1.out K)
      have hpl := preB_len d.ml ⟨yid, ytp, yA, yc, ybl⟩ k
      have HPL : Hid ((preB d.ml ⟨yid, ytp, yA, yc, ybl⟩ k).length ≤ 64064) := Lib.hid (Nat.le_trans hpl (Nat.mul_le_mul (show k ≤ 64 by omega) (show ybl.length + 1 ≤ 1001 by omega)))
      clear hpl
      rcases idxI_cases (fun x : DM => decide (x.n = K)) d.ml with ⟨m1, m2⟩ | ⟨k1, x, k2, m1, m2, m3, m4⟩
      · have hm : mIdx d.ml K = -1 := m1
        rw [hm] at CM
        have M2 : Hid (Has B w wr (Dl r d (Star (Blks (.slice A9 n9 c9) (preB d.ml ⟨yid, ytp, yA, yc, ybl⟩ (k + 1))) Y))) := Lib.hid (by
          rw [preB_snoc, HK.out, show dBlk1 d.ml ⟨yid, ytp, yA, yc, ybl⟩ K = [] by unfold dBlk1; rw [efind_none_of' m2], List.append_nil]
          exact M1.out)
        clear hm m1 m2 M1
        go_wp2_with fail
        refine (CM.out).mono ?_
        rintro e w1 ⟨rfl, rfl⟩
        clear CM
        go_wp2
        go_roundw
        case rel => exact ⟨k + 1, by omega, by (have h5 := HK.out; first | go_num | (congr 1; unfold wrap64; omega)), A9, n9, c9, rfl, M2⟩
        case measure => simp [intOf]; have h5 := HK.out; (try unfold wrap64); omega
      · have hm : mIdx d.ml K = (k1.length : Nat) := m2
        rw [hm] at CM
        have f2 := (efind_split_of (l2 := k2) m4 m3).1
        rw [← m1] at f2
        have hkm : k1.length < d.ml.length := by rw [m1]; simp
        have hxm : d.ml[k1.length]? = some x := by rw [m1, List.getElem?_append_right (Nat.le_refl _), Nat.sub_self]; rfl
        obtain ⟨km, hkm0⟩ : ∃ km, k1.length = km := ⟨_, rfl⟩
        rw [hkm0] at CM hkm hxm
        rw [HNM.out] at hkm
        obtain ⟨A0, c0, hv0, -, -, hrow⟩ := Has.rwsv dm_rowT.len (M1.out.pick (Mods d.vm d.ml))
        obtain ⟨gm, hA, -, hcm2⟩ := hrow _ _ hxm
        subst hA
        have h9 := HVM.out
        rw [hv0] at h9
        injection h9 with q1 q2 q3
        subst q1 q3
        have s0 : wr.cell? ⟨r, 0, none⟩ = some (.slice (some ⟨gm, 0, none⟩) NM c0) := by rw [← HVM.out]; exact M1.out.cellat r 0 rfl
        obtain ⟨xn, xg, xs, xb, tm, xst⟩ := x
        obtain ⟨S, hS⟩ : ∃ S, strB tm = S := ⟨_, rfl⟩
        have cel : ∀ j' v, (#[.int .i64 xn, .int .i64 xg, .int .i64 xs, .int .i64 xb, .string S, .bool xst] : Array Value).toList[j']? = some v → wr.cell? ⟨gm, km * 6 + j', none⟩ = some v := fun j' v hv => hcm2 j' v (by rw [← hS] at hv; exact hv)
        have HF2 := Lib.hid f2
        have Na := Lib.hid (M1.out.newcel 107 #[.int .i64 0, .int .i64 0, .int .i64 0, .int .i64 0, .string ⟨#[]⟩, .bool false])
        have Nb := Lib.hid (Na.out.rowc wr.heap.size #[.int .i64 xn, .int .i64 xg, .int .i64 xs, .int .i64 xb, .string S, .bool xst])
        clear hm m1 m2 m3 m4 f2 hkm0 hxm hv0 q2 hrow hcm2 hS
        go_wp2_with fail
        refine (CM.out).mono ?_
        rintro e w1 ⟨rfl, rfl⟩
        clear CM
        go_upto_region 9 with (first | (refine wpList_partW rfl 107 _ rfl gm (km * 6) rfl #[.int .i64 xn, .int .i64 xg, .int .i64 xs, .int .i64 xb, .string S, .bool xst] _ cel Tryz.underlying107 rfl (by kernel_rfl) ?_) | (refine wpList_store_row rfl 107 _ _ rfl wr.heap.size #[.int .i64 xn, .int .i64 xg, .int .i64 xs, .int .i64 xb, .string S, .bool xst] rfl rfl 107 #[.int .i64 0, .int .i64 0, .int .i64 0, .int .i64 0, .string ⟨#[]⟩, .bool false] (Na.out.getc wr.heap.size) (by kernel_rfl) rfl (by kernel_rfl) ?_))
        obtain ⟨W1, hW⟩ : ∃ W1, (wr.alloc (.cells #[.int .i64 0, .int .i64 0, .int .i64 0, .int .i64 0, .string ⟨#[]⟩, .bool false] 107)).setRow wr.heap.size #[.int .i64 xn, .int .i64 xg, .int .i64 xs, .int .i64 xb, .string S, .bool xst] = W1 := ⟨_, rfl⟩
        rw [hW] at Nb ⊢
        clear hW Na M1 cel s0
        generalize wr.heap.size = x9 at Nb ⊢
        have z5 : W1.cell? ⟨x9, 5, none⟩ = some (.bool xst) := Nb.out.cellat x9 5 rfl
        cases xst with
        | false =>
          have HB1 : Hid (dBlk1 d.ml ⟨yid, ytp, yA, yc, ybl⟩ K = [] ++ ybl.filter fun b => decide (b.md = K)) := Lib.hid (by unfold dBlk1; rw [HF2.out]; rfl)
          rw [List.nil_append] at HB1
          obtain ⟨l0, hl0⟩ : ∃ l0, l0 = preB d.ml ⟨yid, ytp, yA, yc, ybl⟩ k := ⟨_, rfl⟩
          rw [← hl0] at Nb HPL
          have HL0 : Hid (l0.length ≤ 64065) := Lib.hid (by have := HPL.out; omega)
          have HL0E := Lib.hid hl0
          have M6 := Lib.hid (Nb.out.norm (Star (Cel r 33 d.arr) (Star (Mods d.vm d.ml) (Star (Gens d.vg d.gl) (Star (Thrs d.vt d.tl) (Star (All dtR d.tl) (Star (Blks (.slice A9 n9 c9) l0) Y)))))))
          have s2 : W1.cell? ⟨r, 2, none⟩ = some (.slice (some ⟨gt, 0, none⟩) NT ct) := by rw [← HVT.out]; exact M6.out.cellat r 2 rfl
          obtain ⟨t1, t2⟩ := HT.out _ _ (M6.out.pick (Thrs d.vt d.tl))
          clear Nb hl0 t1
          go_wp2
          clear z5
          have M7 := Lib.hid (Dl.take M6.out H1.out)
          clear M6
          go_loopw [5, 66] (fun v i wr => ∃ m : Nat, m ≤ ybl.length ∧ i = .int .i64 m ∧ ∃ A9 n9 c9, v = .slice A9 n9 c9 ∧ Hid (Has B w wr (Star (Blks (.slice yA ybl.length yc) ybl) (DlX r d (l1 ++ l2) (Star (Blks (.slice A9 n9 c9) (l0 ++ (ybl.take m).filter fun b => decide (b.md = K))) Y))))) (fun _ i _ => ybl.length - (intOf i).toNat)
          case atStart => exact ⟨0, Nat.zero_le _, rfl, _, _, _, rfl, Lib.hid (by rw [List.take_zero, List.filter_nil, List.append_nil]; exact M7.out)⟩
          case round =>
            obtain ⟨m, hm, rfl, A9', n9', c9', rfl, M8⟩ := hrel
            clear M7
            by_cases hlt2 : m < ybl.length
            · obtain ⟨⟨bm, bgn, bat, bsz⟩, hbm⟩ : ∃ b, ybl[m]? = some b := ⟨_, List.getElem?_eq_getElem hlt2⟩
              obtain ⟨A2, c2, hv2, -, -, hrow2⟩ := Has.rwsv rb_rowT.len M8.out
              cases hv2
              obtain ⟨bg, hbA, hbl2, hcb⟩ := hrow2 m _ hbm
              subst hbA
              have cel : ∀ j' v, (#[.int .i64 bm, .int .i64 bgn, .int .i64 bat, .int .i64 bsz] : Array Value).toList[j']? = some v → wr.cell? ⟨bg, m * 4 + j', none⟩ = some v := fun j' v hv => hcb j' v hv
              have HF1 := Lib.hid (fil_snoc (fun b : Bk => decide (b.md = K)) ybl m ⟨bm, bgn, bat, bsz⟩ hbm)
              have Na := Lib.hid (M8.out.newcel 96 #[.int .i64 0, .int .i64 0, .int .i64 0, .int .i64 0])
              have Nb := Lib.hid (Na.out.rowc wr.heap.size #[.int .i64 bm, .int .i64 bgn, .int .i64 bat, .int .i64 bsz])
              clear hrow2 hcb hbm
              go_upto_region 14 with (first | (refine wpList_partW rfl 96 _ rfl bg (m * 4) rfl #[.int .i64 bm, .int .i64 bgn, .int .i64 bat, .int .i64 bsz] _ cel Tryz.underlying96 rfl (by kernel_rfl) ?_) | (refine wpList_store_row rfl 96 _ _ rfl wr.heap.size #[.int .i64 bm, .int .i64 bgn, .int .i64 bat, .int .i64 bsz] rfl rfl 96 #[.int .i64 0, .int .i64 0, .int .i64 0, .int .i64 0] (Na.out.getc wr.heap.size) (by kernel_rfl) rfl (by kernel_rfl) ?_))
              obtain ⟨W2, hW⟩ : ∃ W2, (wr.alloc (.cells #[.int .i64 0, .int .i64 0, .int .i64 0, .int .i64 0] 96)).setRow wr.heap.size #[.int .i64 bm, .int .i64 bgn, .int .i64 bat, .int .i64 bsz] = W2 := ⟨_, rfl⟩
              rw [hW] at Nb ⊢
              clear hW Na M8 cel
              generalize wr.heap.size = x11 at Nb ⊢
              have b0 : W2.cell? ⟨x11, 0, none⟩ = some (.int .i64 bm) := Nb.out.cellat x11 0 rfl
              by_cases hmd : bm = K
              · subst hmd
                obtain ⟨v', w', hr, mm⟩ := Has.append1 rb_rowT (Nb.out.pick (Blks (.slice A9' n9' c9') (l0 ++ (ybl.take m).filter fun b => decide (b.md = bm)))) ⟨bm, bgn, bat, bsz⟩ #[.int .i64 bm, .int .i64 bgn, .int .i64 bat, .int .i64 bsz] rfl (by
                  have h5 : ((ybl.take m).filter fun b => decide (b.md = bm)).length ≤ 1000 := Nat.le_trans (List.length_filter_le _ _) (by rw [List.length_take]; omega)
                  rw [List.length_append]
                  have := HL0.out
                  omega) 94
                rw [List.append_assoc] at mm
                obtain ⟨A2, c2, hv2, -, -, -⟩ := Has.rwsv rb_rowT.len mm
                generalize (l0 ++ (((ybl.take m).filter fun b : Bk => decide (b.md = bm)) ++ [(⟨bm, bgn, bat, bsz⟩ : Bk)])).length = n2 at hv2
                subst hv2
                have HR := Lib.hid hr
                have M9 : Hid (Has B w w' (Star (Blks (.slice (some ⟨bg, 0, none⟩) ybl.length yc) ybl) (DlX r d (l1 ++ l2) (Star (Blks (.slice A2 n2 c2) (l0 ++ (ybl.take (m + 1)).filter fun b => decide (b.md = bm))) Y)))) := Lib.hid (by
                  rw [HF1.out, if_pos (by simp)]
                  exact mm.norm (Star (Blks (.slice (some ⟨bg, 0, none⟩) ybl.length yc) ybl) (DlX r d (l1 ++ l2) (Star (Blks (.slice A2 n2 c2) (l0 ++ (((ybl.take m).filter fun b => decide (b.md = bm)) ++ [(⟨bm, bgn, bat, bsz⟩ : Bk)]))) Y))))
                clear hr mm
                go_wp2_with (first | (refine wpList_load_row rfl 96 _ rfl x11 rfl 96 #[.int .i64 bm, .int .i64 bgn, .int .i64 bat, .int .i64 bsz] (0, 0) _ (Nb.out.getc x11) Tryz.underlying96 rfl (by kernel_rfl) ?_) | (at_builtin; refine Lib.wpList_append_run _ rfl _ _ _ _ rfl _ _ rfl rfl _ _ HR.out ?_))
                go_roundw
                case rel => exact ⟨m + 1, by omega, by go_num, A2, n2, c2, rfl, M9⟩
                case measure => simp [intOf]; omega
              · have M9 : Hid (Has B w W2 (Star (Blks (.slice (some ⟨bg, 0, none⟩) ybl.length yc) ybl) (DlX r d (l1 ++ l2) (Star (Blks (.slice A9' n9' c9') (l0 ++ (ybl.take (m + 1)).filter fun b => decide (b.md = K))) Y)))) := Lib.hid (by
                  rw [HF1.out, if_neg (by simp [hmd]), List.append_nil]
                  exact Nb.out.right)
                clear Nb
                go_wp2
                go_roundw
                case rel => exact ⟨m + 1, by omega, by go_num, A9', n9', c9', rfl, M9⟩
                case measure => simp [intOf]; omega
            · obtain rfl : m = ybl.length := by omega
              have M9 : Hid (Has B w wr (Dl r d (Star (Blks (.slice A9' n9' c9') (preB d.ml ⟨yid, ytp, yA, yc, ybl⟩ (k + 1))) Y))) := Lib.hid (by
                have h5 := Dl.give (r := r) (d := d) (y := ⟨yid, ytp, yA, yc, ybl⟩) M8.out
                rw [← H1.out, List.take_length] at h5
                rw [preB_snoc, HK.out, HB1.out]
                rw [HL0E.out] at h5
                exact h5)
              clear M8
              go_wp2
              go_roundw
              case rel => exact ⟨k + 1, by omega, by (have h5 := HK.out; first | go_num | (congr 1; unfold wrap64; omega)), A9', n9', c9', rfl, M9⟩
              case measure => simp [intOf]; have h5 := HK.out; (try unfold wrap64); omega
        | true =>
          have HB1 : Hid (dBlk1 d.ml ⟨yid, ytp, yA, yc, ybl⟩ K = [⟨K, xg, wrap64 (ytp + xb), xs⟩] ++ ybl.filter fun b => decide (b.md = K)) := Lib.hid (by unfold dBlk1; rw [HF2.out]; rfl)
          go_upto_region 10 with fail
          have M3 := Lib.hid (Nb.out.stay ((Below.refl _ W1).drew))
          have z1 : W1.drew.cell? ⟨x9, 1, none⟩ = some (.int .i64 xg) := M3.out.cellat x9 1 rfl
          have z2 : W1.drew.cell? ⟨x9, 2, none⟩ = some (.int .i64 xs) := M3.out.cellat x9 2 rfl
          have z3 : W1.drew.cell? ⟨x9, 3, none⟩ = some (.int .i64 xb) := M3.out.cellat x9 3 rfl
          have s2 : W1.drew.cell? ⟨r, 2, none⟩ = some (.slice (some ⟨gt, 0, none⟩) NT ct) := by rw [← HVT.out]; exact M3.out.cellat r 2 rfl
          obtain ⟨t1, t2⟩ := HT.out _ _ (M3.out.pick (Thrs d.vt d.tl))
          obtain ⟨v', w', hr, mm⟩ := Has.append1 rb_rowT (M3.out.pick (Blks (.slice A9 n9 c9) (preB d.ml ⟨yid, ytp, yA, yc, ybl⟩ k))) ⟨K, xg, wrap64 (ytp + xb), xs⟩ #[.int .i64 K, .int .i64 xg, .int .i64 (wrap64 (ytp + xb)), .int .i64 xs] rfl (by have := HPL.out; omega) 94
          obtain ⟨l0, hl0⟩ : ∃ l0, l0 = preB d.ml ⟨yid, ytp, yA, yc, ybl⟩ k ++ [⟨K, xg, wrap64 (ytp + xb), xs⟩] := ⟨_, rfl⟩
          have HL0 : Hid (l0.length ≤ 64065) := Lib.hid (by rw [hl0, List.length_append]; have := HPL.out; simp only [List.length_cons, List.length_nil]; omega)
          have HL0E0 := Lib.hid hl0
          rw [← hl0] at mm
          have HB1' := HB1
          obtain ⟨A2, c2, hv2, -, -, -⟩ := Has.rwsv rb_rowT.len mm
          generalize l0.length = n2 at hv2
          subst hv2
          have HR := Lib.hid hr
          have M3a := Lib.hid (M3.out.stay ((Below.refl _ W1.drew).alloc (Nat.le_refl _) (.cells #[.int .i64 K, .int .i64 xg, .int .i64 (wrap64 (ytp + xb)), .int .i64 xs] 96)))
          have hS : (fun X : World => X.cell? ⟨r, 2, none⟩ = some (.slice (some ⟨gt, 0, none⟩) NT ct) ∧ X.cell? ⟨gt, kt * 3 + 1, none⟩ = some (.int .i64 ytp) ∧ X.cell? ⟨x9, 1, none⟩ = some (.int .i64 xg) ∧ X.cell? ⟨x9, 2, none⟩ = some (.int .i64 xs) ∧ X.cell? ⟨x9, 3, none⟩ = some (.int .i64 xb)) W1.drew := ⟨s2, t1, z1, z2, z3⟩
          have hS1 : (W1.drew.alloc (.cells #[.int .i64 K, .int .i64 xg, .int .i64 (wrap64 (ytp + xb)), .int .i64 xs] 96)).cell? ⟨r, 2, none⟩ = some (.slice (some ⟨gt, 0, none⟩) NT ct) ∧ (W1.drew.alloc (.cells #[.int .i64 K, .int .i64 xg, .int .i64 (wrap64 (ytp + xb)), .int .i64 xs] 96)).cell? ⟨gt, kt * 3 + 1, none⟩ = some (.int .i64 ytp) ∧ (W1.drew.alloc (.cells #[.int .i64 K, .int .i64 xg, .int .i64 (wrap64 (ytp + xb)), .int .i64 xs] 96)).cell? ⟨x9, 1, none⟩ = some (.int .i64 xg) ∧ (W1.drew.alloc (.cells #[.int .i64 K, .int .i64 xg, .int .i64 (wrap64 (ytp + xb)), .int .i64 xs] 96)).cell? ⟨x9, 2, none⟩ = some (.int .i64 xs) ∧ (W1.drew.alloc (.cells #[.int .i64 K, .int .i64 xg, .int .i64 (wrap64 (ytp + xb)), .int .i64 xs] 96)).cell? ⟨x9, 3, none⟩ = some (.int .i64 xb) := ⟨by rw [← HVT.out]; exact M3a.out.cellat r 2 rfl, (HT.out _ _ (M3a.out.pick (Thrs d.vt d.tl))).1, M3a.out.cellat x9 1 rfl, M3a.out.cellat x9 2 rfl, M3a.out.cellat x9 3 rfl⟩
          have hS2 : w'.cell? ⟨r, 2, none⟩ = some (.slice (some ⟨gt, 0, none⟩) NT ct) ∧ w'.cell? ⟨gt, kt * 3 + 1, none⟩ = some (.int .i64 ytp) ∧ w'.cell? ⟨x9, 1, none⟩ = some (.int .i64 xg) ∧ w'.cell? ⟨x9, 2, none⟩ = some (.int .i64 xs) ∧ w'.cell? ⟨x9, 3, none⟩ = some (.int .i64 xb) := ⟨by rw [← HVT.out]; exact mm.cellat r 2 rfl, (HT.out _ _ (mm.pick (Thrs d.vt d.tl))).1, mm.cellat x9 1 rfl, mm.cellat x9 2 rfl, mm.cellat x9 3 rfl⟩
          have M6 := Lib.hid (mm.norm (Star (Cel r 33 d.arr) (Star (Mods d.vm d.ml) (Star (Gens d.vg d.gl) (Star (Thrs d.vt d.tl) (Star (All dtR d.tl) (Star (Blks (.slice A2 n2 c2) l0) Y)))))))
          refine wp_region_noPanic ?_
          refine wp_region_held_drew (S := fun X : World => X.cell? ⟨r, 2, none⟩ = some (.slice (some ⟨gt, 0, none⟩) NT ct) ∧ X.cell? ⟨gt, kt * 3 + 1, none⟩ = some (.int .i64 ytp) ∧ X.cell? ⟨x9, 1, none⟩ = some (.int .i64 xg) ∧ X.cell? ⟨x9, 2, none⟩ = some (.int .i64 xs) ∧ X.cell? ⟨x9, 3, none⟩ = some (.int .i64 xb)) (by kernel_rfl) hS ?_
          clear hS
          intro hS
          refine takeR (i := 0) (v := (.slice A9 n9 c9)) 37 rfl (by kernel_rfl) (by kernel_rfl) (by kernel_rfl) (by kernel_rfl) (fun _ _ _ h => h) (yields_pure (by kernel_rfl) (fun w => by kernel_rfl)) hS ?_
          refine takeR (i := 1) (v := (.int .i64 K)) 38 rfl (by kernel_rfl) (by kernel_rfl) (by kernel_rfl) (by kernel_rfl) (fun _ _ _ h => h) (yields_pure (by kernel_rfl) (fun w => by kernel_rfl)) hS ?_
          refine takeR (i := 2) (v := (.pointer (some ⟨x9, 1, none⟩))) 39 rfl (by kernel_rfl) (by kernel_rfl) (by kernel_rfl) (by kernel_rfl) (fun _ _ _ h => h) (yields_pure (by kernel_rfl) (fun w => by kernel_rfl)) hS ?_
          refine takeR (i := 3) 40 rfl (by kernel_rfl) (by kernel_rfl) (by kernel_rfl) (by kernel_rfl) (fun _ _ _ h => h) (yields_load_cell (by kernel_rfl) 3 _ rfl x9 1 (by kernel_rfl) (.int .i64 xg) (fun X h => h.2.2.1) _ Tryz.underlying3 rfl) hS ?_
          refine takeR (i := 4) (v := (.pointer (some ⟨r, 0, none⟩))) 41 rfl (by kernel_rfl) (by kernel_rfl) (by kernel_rfl) (by kernel_rfl) (fun _ _ _ h => h) (yields_pure (by kernel_rfl) (fun w => by kernel_rfl)) hS ?_
          refine takeR (i := 5) (v := (.pointer (some ⟨r, 0, none⟩))) 42 rfl (by kernel_rfl) (by kernel_rfl) (by kernel_rfl) (by kernel_rfl) (fun _ _ _ h => h) (yields_pure (by kernel_rfl) (fun w => by kernel_rfl)) hS ?_
          refine takeR (i := 6) (v := (.pointer (some ⟨r, 2, none⟩))) 43 rfl (by kernel_rfl) (by kernel_rfl) (by kernel_rfl) (by kernel_rfl) (fun _ _ _ h => h) (yields_pure (by kernel_rfl) (fun w => by kernel_rfl)) hS ?_
          refine takeR (i := 7) 44 rfl (by kernel_rfl) (by kernel_rfl) (by kernel_rfl) (by kernel_rfl) (fun _ _ _ h => h) (yields_load_cell (by kernel_rfl) 31 _ rfl r 2 (by kernel_rfl) (.slice (some ⟨gt, 0, none⟩) NT ct) (fun X h => h.1) _ Tryz.underlying31 rfl) hS ?_
          refine takeR (i := 8) (v := (.int .i64 kt)) 45 rfl (by kernel_rfl) (by kernel_rfl) (by kernel_rfl) (by kernel_rfl) (fun _ _ _ h => h) (yields_pure (by kernel_rfl) (fun w => by kernel_rfl)) hS ?_
          refine takeR (i := 9) (v := (.pointer (some ⟨gt, kt * 3, none⟩))) 46 rfl (by kernel_rfl) (by kernel_rfl) (by kernel_rfl) (by kernel_rfl) (fun _ _ _ h => h) (yields_pure (by kernel_rfl) (fun w => exec_index 31 (.tmp 44) (.tmp 45) (by kernel_rfl) gt NT ct (by kernel_rfl) kt (by kernel_rfl) (by kernel_rfl) 3 (by kernel_rfl) hk)) hS ?_
          refine takeR (i := 10) (v := (.pointer (some ⟨gt, kt * 3 + 1, none⟩))) 47 rfl (by kernel_rfl) (by kernel_rfl) (by kernel_rfl) (by kernel_rfl) (fun _ _ _ h => h) (yields_pure (by kernel_rfl) (fun w => by kernel_rfl)) hS ?_
          refine takeR (i := 11) 48 rfl (by kernel_rfl) (by kernel_rfl) (by kernel_rfl) (by kernel_rfl) (fun _ _ _ h => h) (yields_load_cell (by kernel_rfl) 3 _ rfl gt (kt * 3 + 1) (by kernel_rfl) (.int .i64 ytp) (fun X h => h.2.1) _ Tryz.underlying3 rfl) hS ?_
          refine takeR (i := 12) (v := (.pointer (some ⟨x9, 3, none⟩))) 49 rfl (by kernel_rfl) (by kernel_rfl) (by kernel_rfl) (by kernel_rfl) (fun _ _ _ h => h) (yields_pure (by kernel_rfl) (fun w => by kernel_rfl)) hS ?_
          refine takeR (i := 13) 50 rfl (by kernel_rfl) (by kernel_rfl) (by kernel_rfl) (by kernel_rfl) (fun _ _ _ h => h) (yields_load_cell (by kernel_rfl) 3 _ rfl x9 3 (by kernel_rfl) (.int .i64 xb) (fun X h => h.2.2.2.2) _ Tryz.underlying3 rfl) hS ?_
          refine takeR (i := 14) (v := (.int .i64 (wrap64 (ytp + xb)))) 51 rfl (by kernel_rfl) (by kernel_rfl) (by kernel_rfl) (by kernel_rfl) (fun _ _ _ h => h) (yields_pure (by kernel_rfl) (fun w => (show _ = Result.ok (Next.value (.int .i64 (IntKind.i64.wrap (ytp + xb)))) w by kernel_rfl).trans (by rw [i64_wrap64]))) hS ?_
          refine takeR (i := 15) (v := (.pointer (some ⟨x9, 2, none⟩))) 52 rfl (by kernel_rfl) (by kernel_rfl) (by kernel_rfl) (by kernel_rfl) (fun _ _ _ h => h) (yields_pure (by kernel_rfl) (fun w => by kernel_rfl)) hS ?_
          refine takeR (i := 16) 53 rfl (by kernel_rfl) (by kernel_rfl) (by kernel_rfl) (by kernel_rfl) (fun _ _ _ h => h) (yields_load_cell (by kernel_rfl) 3 _ rfl x9 2 (by kernel_rfl) (.int .i64 xs) (fun X h => h.2.2.2.1) _ Tryz.underlying3 rfl) hS ?_
          refine takeR (i := 17) (v := (.agg #[.int .i64 K, .int .i64 xg, .int .i64 (wrap64 (ytp + xb)), .int .i64 xs])) 54 rfl (by kernel_rfl) (by kernel_rfl) (by kernel_rfl) (by kernel_rfl) (fun _ _ _ h => h) (yields_pure (by kernel_rfl) (fun w => by kernel_rfl)) hS ?_
          refine wpAnyH_all (rs := [18]) (by kernel_rfl) (by simp) ?_
          intro j hj
          obtain rfl : j = 18 := by simpa using hj
          refine opR_run (v := .slice (some ⟨W1.drew.heap.size, 0, none⟩) 1 1) (w' := W1.drew.alloc (.cells #[.int .i64 K, .int .i64 xg, .int .i64 (wrap64 (ytp + xb)), .int .i64 xs] 96)) 55 rfl (by kernel_rfl) (by kernel_rfl) (by kernel_rfl) ?_
          refine ⟨hS1, ?_⟩
          refine wpAnyH_all (rs := [19]) (by kernel_rfl) (by simp) ?_
          intro j hj
          obtain rfl : j = 19 := by simpa using hj
          refine opR_run (v := .slice A2 n2 c2) (w' := w') 56 rfl (by kernel_rfl) (by kernel_rfl) (exec_append_run (.tmp 37) (.tmp 55) 94 94 (by kernel_rfl) (.slice A9 n9 c9) (.slice (some ⟨W1.drew.heap.size, 0, none⟩) 1 1) (by kernel_rfl) (by kernel_rfl) HR.out) ?_
          refine ⟨hS2, ?_⟩
          refine takeR (i := 20) (v := .slice A2 n2 c2) 5 rfl (by kernel_rfl) (by kernel_rfl) (by kernel_rfl) (by kernel_rfl) (fun _ _ _ h => h) (yields_pure (by kernel_rfl) (fun w => by kernel_rfl)) hS2 ?_
          refine wpAnyH_done (by kernel_rfl) ?_ _
          refine NoPanic.normal ?_
          simp only [Act.put, List.setIfInBounds_toArray, List.set_cons_succ, List.set_cons_zero]
          clear hS hS1 s2 t1 t2 z1 z2 z3 hr mm M3 M3a Nb HR
          generalize W1.drew.heap.size = x55
          generalize hwx : wrap64 (ytp + xb) = wx at HB1 HL0E0 ⊢
          clear hwx
          have s2 := hS2.1
          obtain ⟨t1, t2⟩ := HT.out _ _ (M6.out.pick (Thrs d.vt d.tl))
          clear hS2 t1 hl0
          go_wp2
          have M7 := Lib.hid (Dl.take M6.out H1.out)
          clear M6
          go_loopw [5, 66] (fun v i wr => ∃ m : Nat, m ≤ ybl.length ∧ i = .int .i64 m ∧ ∃ A9 n9 c9, v = .slice A9 n9 c9 ∧ Hid (Has B w wr (Star (Blks (.slice yA ybl.length yc) ybl) (DlX r d (l1 ++ l2) (Star (Blks (.slice A9 n9 c9) (l0 ++ (ybl.take m).filter fun b => decide (b.md = K))) Y))))) (fun _ i _ => ybl.length - (intOf i).toNat)
          case atStart => exact ⟨0, Nat.zero_le _, rfl, _, _, _, rfl, Lib.hid (by rw [List.take_zero, List.filter_nil, List.append_nil]; exact M7.out)⟩
          case round =>
            obtain ⟨m, hm, rfl, A9', n9', c9', rfl, M8⟩ := hrel
            clear M7
            by_cases hlt2 : m < ybl.length
            · obtain ⟨⟨bm, bgn, bat, bsz⟩, hbm⟩ : ∃ b, ybl[m]? = some b := ⟨_, List.getElem?_eq_getElem hlt2⟩
              obtain ⟨A2, c2, hv2, -, -, hrow2⟩ := Has.rwsv rb_rowT.len M8.out
              cases hv2
              obtain ⟨bg, hbA, hbl2, hcb⟩ := hrow2 m _ hbm
              subst hbA
              have cel : ∀ j' v, (#[.int .i64 bm, .int .i64 bgn, .int .i64 bat, .int .i64 bsz] : Array Value).toList[j']? = some v → wr.cell? ⟨bg, m * 4 + j', none⟩ = some v := fun j' v hv => hcb j' v hv
              have HF1 := Lib.hid (fil_snoc (fun b : Bk => decide (b.md = K)) ybl m ⟨bm, bgn, bat, bsz⟩ hbm)
              have Na := Lib.hid (M8.out.newcel 96 #[.int .i64 0, .int .i64 0, .int .i64 0, .int .i64 0])
              have Nb := Lib.hid (Na.out.rowc wr.heap.size #[.int .i64 bm, .int .i64 bgn, .int .i64 bat, .int .i64 bsz])
              clear hrow2 hcb hbm
              go_upto_region 14 with (first | (refine wpList_partW rfl 96 _ rfl bg (m * 4) rfl #[.int .i64 bm, .int .i64 bgn, .int .i64 bat, .int .i64 bsz] _ cel Tryz.underlying96 rfl (by kernel_rfl) ?_) | (refine wpList_store_row rfl 96 _ _ rfl wr.heap.size #[.int .i64 bm, .int .i64 bgn, .int .i64 bat, .int .i64 bsz] rfl rfl 96 #[.int .i64 0, .int .i64 0, .int .i64 0, .int .i64 0] (Na.out.getc wr.heap.size) (by kernel_rfl) rfl (by kernel_rfl) ?_))
              obtain ⟨W2, hW⟩ : ∃ W2, (wr.alloc (.cells #[.int .i64 0, .int .i64 0, .int .i64 0, .int .i64 0] 96)).setRow wr.heap.size #[.int .i64 bm, .int .i64 bgn, .int .i64 bat, .int .i64 bsz] = W2 := ⟨_, rfl⟩
              rw [hW] at Nb ⊢
              clear hW Na M8 cel
              generalize wr.heap.size = x11 at Nb ⊢
              have b0 : W2.cell? ⟨x11, 0, none⟩ = some (.int .i64 bm) := Nb.out.cellat x11 0 rfl
              by_cases hmd : bm = K
              · subst hmd
                obtain ⟨v', w', hr, mm⟩ := Has.append1 rb_rowT (Nb.out.pick (Blks (.slice A9' n9' c9') (l0 ++ (ybl.take m).filter fun b => decide (b.md = bm)))) ⟨bm, bgn, bat, bsz⟩ #[.int .i64 bm, .int .i64 bgn, .int .i64 bat, .int .i64 bsz] rfl (by
                  have h5 : ((ybl.take m).filter fun b => decide (b.md = bm)).length ≤ 1000 := Nat.le_trans (List.length_filter_le _ _) (by rw [List.length_take]; omega)
                  rw [List.length_append]
                  have := HL0.out
                  omega) 94
                rw [List.append_assoc] at mm
                obtain ⟨A2, c2, hv2, -, -, -⟩ := Has.rwsv rb_rowT.len mm
                generalize (l0 ++ (((ybl.take m).filter fun b : Bk => decide (b.md = bm)) ++ [(⟨bm, bgn, bat, bsz⟩ : Bk)])).length = n2 at hv2
                subst hv2
                have HR := Lib.hid hr
                have M9 : Hid (Has B w w' (Star (Blks (.slice (some ⟨bg, 0, none⟩) ybl.length yc) ybl) (DlX r d (l1 ++ l2) (Star (Blks (.slice A2 n2 c2) (l0 ++ (ybl.take (m + 1)).filter fun b => decide (b.md = bm))) Y)))) := Lib.hid (by
                  rw [HF1.out, if_pos (by simp)]
                  exact mm.norm (Star (Blks (.slice (some ⟨bg, 0, none⟩) ybl.length yc) ybl) (DlX r d (l1 ++ l2) (Star (Blks (.slice A2 n2 c2) (l0 ++ (((ybl.take m).filter fun b => decide (b.md = bm)) ++ [(⟨bm, bgn, bat, bsz⟩ : Bk)]))) Y))))
                clear hr mm
                go_wp2_with (first | (refine wpList_load_row rfl 96 _ rfl x11 rfl 96 #[.int .i64 bm, .int .i64 bgn, .int .i64 bat, .int .i64 bsz] (0, 0) _ (Nb.out.getc x11) Tryz.underlying96 rfl (by kernel_rfl) ?_) | (at_builtin; refine Lib.wpList_append_run _ rfl _ _ _ _ rfl _ _ rfl rfl _ _ HR.out ?_))
                go_roundw
                case rel => exact ⟨m + 1, by omega, by go_num, A2, n2, c2, rfl, M9⟩
                case measure => simp [intOf]; omega
              · have M9 : Hid (Has B w W2 (Star (Blks (.slice (some ⟨bg, 0, none⟩) ybl.length yc) ybl) (DlX r d (l1 ++ l2) (Star (Blks (.slice A9' n9' c9') (l0 ++ (ybl.take (m + 1)).filter fun b => decide (b.md = K))) Y)))) := Lib.hid (by
                  rw [HF1.out, if_neg (by simp [hmd]), List.append_nil]
                  exact Nb.out.right)
                clear Nb
                go_wp2
                go_roundw
                case rel => exact ⟨m + 1, by omega, by go_num, A9', n9', c9', rfl, M9⟩
                case measure => simp [intOf]; omega
            · obtain rfl : m = ybl.length := by omega
              have M9 : Hid (Has B w wr (Dl r d (Star (Blks (.slice A9' n9' c9') (preB d.ml ⟨yid, ytp, yA, yc, ybl⟩ (k + 1))) Y))) := Lib.hid (by
                have h5 := Dl.give (r := r) (d := d) (y := ⟨yid, ytp, yA, yc, ybl⟩) M8.out
                rw [← H1.out, List.take_length] at h5
                rw [preB_snoc, HK.out, HB1.out]
                rw [HL0E0.out, List.append_assoc] at h5
                exact h5)
              clear M8
              go_wp2
              go_roundw
              case rel => exact ⟨k + 1, by omega, by (have h5 := HK.out; first | go_num | (congr 1; unfold wrap64; omega)), A9', n9', c9', rfl, M9⟩
              case measure => simp [intOf]; have h5 := HK.out; (try unfold wrap64); omega
    · obtain rfl : k = 64 := by omega
      have HF := Lib.hid (HE.out _ _ M1.out)
      clear M1
      go_wp2
      go_ret
      exact HF.out
end Go.Proofs.YtpenejigebkkmaaGreat
