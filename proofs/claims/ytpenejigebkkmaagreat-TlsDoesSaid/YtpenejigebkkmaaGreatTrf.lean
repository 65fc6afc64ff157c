/-
  Layer 17, the document's side: Release.
  Conditions: none. (My own text.)
-/
import Derived.Test.YtpenejigebkkmaaGreatTgg
namespace Go.Proofs.YtpenejigebkkmaaGreat
open Go.RowKit Spm
set_option linter.unusedVariables false
set_option linter.unusedSimpArgs false
attribute [local irreducible] wpList

def gD (n : Int) (l : List DT) : List Int := l.flatMap fun y => (y.bl.filter fun b => decide (b.md = n)).map fun b => b.at_
def flD (n : Int) (y : DT) : Int × Int × List Bk := (y.id, y.tp, y.bl.filter fun b => !decide (b.md = n))
theorem unmapsS_app (L : List Rg) (a b : List Int) : unmapsS L (a ++ b) = unmapsS (unmapsS L a) b := by unfold unmapsS; rw [List.foldl_append]
theorem gD_snoc (n : Int) (l : List DT) (j : Nat) (y : DT) (h : l[j]? = some y) : gD n (l.take (j + 1)) = gD n (l.take j) ++ (y.bl.filter fun b => decide (b.md = n)).map fun b => b.at_ := by
  unfold gD
  rw [List.take_add_one, h, List.flatMap_append]
  simp
theorem fil_snoc {α : Type} (p : α → Bool) (l : List α) (j : Nat) (b : α) (h : l[j]? = some b) : (l.take (j + 1)).filter p = (l.take j).filter p ++ if p b = true then [b] else [] := by
  rw [List.take_add_one, h, List.filter_append]
  cases hp : p b <;> simp [hp]
def DRelE (r q : Nat) (d : Dt) (L : List Rg) (Y : Res) (B : Nat) (w : World) (n : Int) (e : Ending) (w' : World) : Prop := ∃ k d' L', DRelP d L n k d' L' ∧ e = .returned (.int .i64 k) ∧ Has B w w' (Dl r d' (Star (Rf q L') Y))
set_option maxRecDepth 100000 in
set_option maxHeartbeats 8000000 in
theorem rrel_any {B : Nat} {w wr : World} {Y : Res} [hY : Fr Y] {r q : Nat} {d : Dt} {L : List Rg} (h : Has B w wr (Dl r d (Star (Rf q L) Y))) (hml : d.ml.length ≤ 1000) (htl : d.tl.length ≤ 1000) (hbl : ∀ y ∈ d.tl, y.bl.length ≤ 1000) (n : Int) : Calls Tryz.prog 28 #[.pointer (some ⟨r, 0, none⟩), .pointer (some ⟨q, 0, none⟩), .int .i64 n] wr (DRelE r q d L Y B w n) := by
  have C1 := Lib.hid (rmodule_any h n)
  have M0 := Lib.hid h
  rcases idxI_cases (fun x : DM => decide (x.n = n)) d.ml with ⟨h1, h2⟩ | ⟨m1, x, m2, h1, h2, h3, h4⟩
  · have hm : mIdx d.ml n = -1 := h1
    rw [hm] at C1
    have HE : Hid (DRelE r q d L Y B w n (.returned (.int .i64 170)) wr) := Lib.hid ⟨170, d, L, by unfold DRelP; rw [efind_none_of' h2]; exact ⟨rfl, rfl, rfl⟩, rfl, h⟩
    clear h h1 h2 hm M0
    go_enter Tryz.func28, Tryz.ntmps28
    go_wp2_with fail
    refine (C1.out).mono ?_
    rintro e w1 ⟨rfl, rfl⟩
    go_wp2
    go_ret
    exact HE.out
  have hm : mIdx d.ml n = (m1.length : Nat) := h2
  rw [hm] at C1
  obtain ⟨f1, f2⟩ := efind_split_of (l2 := m2) h4 h3
  rw [← h1] at f1 f2
  have hk : m1.length < d.ml.length := by rw [h1]; simp
  have hx : d.ml[m1.length]? = some x := by rw [h1, List.getElem?_append_right (Nat.le_refl _), Nat.sub_self]; rfl
  obtain ⟨A, cm, hv, hlc, hcm, hrow⟩ := Has.rwsv dm_rowT.len (h.pick (Mods d.vm d.ml))
  obtain ⟨gm, hA, -, hcellx⟩ := hrow _ _ hx
  subst hA
  have HVM := Lib.hid hv
  have H1 := Lib.hid h1
  obtain ⟨NM, hN⟩ : ∃ NM, d.ml.length = NM := ⟨_, rfl⟩
  have HNM := Lib.hid hN
  have HNM2 : Hid (NM = m1.length + 1 + m2.length) := Lib.hid (by rw [← hN, h1]; simp; omega)
  rw [hN] at hk hml
  have s0 : wr.cell? ⟨r, 0, none⟩ = some (.slice (some ⟨gm, 0, none⟩) NM cm) := by rw [← hN, ← hv]; exact h.cellat r 0 rfl
  have x5 : wr.cell? ⟨gm, m1.length * 6 + 5, none⟩ = some (.bool x.st) := hcellx 5 _ rfl
  have hcNM : NM ≤ cm := by rw [← hN]; exact hlc
  unfold maxLen at hcm
  obtain ⟨kk, hkk⟩ : ∃ kk, m1.length = kk := ⟨_, rfl⟩
  have HKK := Lib.hid hkk
  rw [hkk] at x5 hk C1
  obtain ⟨st, hst⟩ : ∃ st, x.st = st := ⟨_, rfl⟩
  rw [hst] at x5
  cases st with
  | true =>
    have HE : Hid (DRelE r q d L Y B w n (.returned (.int .i64 172)) wr) := Lib.hid ⟨172, d, L, by unfold DRelP; rw [f1]; show ite _ _ _; rw [if_pos hst]; exact ⟨rfl, rfl, rfl⟩, rfl, h⟩
    clear h hrow hm h2 h3 h4 f1 f2 hbl hx hv M0 h1 hN hkk hst hcellx hlc
    go_enter Tryz.func28, Tryz.ntmps28
    go_wp2_with fail
    refine (C1.out).mono ?_
    rintro e w1 ⟨rfl, rfl⟩
    clear C1
    go_wp2
    go_ret
    exact HE.out
  | false =>
    have HE : Hid (∀ w' tl vm, tl.map tKey = d.tl.map (flD n) → Has B w w' (Dl r { d with ml := m1 ++ m2, tl := tl, vm := vm } (Star (Rf q (unmapsS L (gD n d.tl))) Y)) → DRelE r q d L Y B w n (.returned (.int .i64 0)) w') := Lib.hid (fun w' tl vm ht hh => ⟨0, _, _, by unfold DRelP; rw [f1]; show ite _ _ _; rw [if_neg (by rw [hst]; decide)]; exact ⟨rfl, rfl, tl, vm, ht, rfl⟩, rfl, by rw [f2]; exact hh⟩)
    obtain ⟨Av, cv, hvt, hlt0, hcv, -⟩ := Has.rwsv dt_rowT.len (h.pick (Thrs d.vt d.tl))
    obtain ⟨NT, hNT⟩ : ∃ NT, d.tl.length = NT := ⟨_, rfl⟩
    rw [hNT] at hvt hlt0 htl
    have HVT := Lib.hid hvt
    have HNT := Lib.hid hNT
    unfold maxLen at hcv
    have HBL := Lib.hid hbl
    clear h hrow hm h2 h3 h4 f1 f2 hbl hx hv h1 hN hkk hst hcellx hlc hvt hNT
    go_enter Tryz.func28, Tryz.ntmps28
    go_wp2_with fail
    refine (C1.out).mono ?_
    rintro e w1 ⟨rfl, rfl⟩
    clear C1
    go_wp2
    clear s0 x5
    have M1 : Hid (Has B w wr (Dl r { d with tl := [] ++ d.tl.drop 0 } (Star (Rf q (unmapsS L (gD n (d.tl.take 0)))) Y))) := M0
    clear M0
    go_loopw [8] (fun i wr => ∃ j : Nat, j ≤ NT ∧ i = .int .i64 j ∧ ∃ pre : List DT, Hid (pre.length = j ∧ pre.map tKey = (d.tl.take j).map (flD n)) ∧ Hid (Has B w wr (Dl r { d with tl := pre ++ d.tl.drop j } (Star (Rf q (unmapsS L (gD n (d.tl.take j)))) Y)))) (fun i _ => NT - (intOf i).toNat)
    case atStart => exact ⟨0, Nat.zero_le _, rfl, [], Lib.hid ⟨rfl, rfl⟩, M1⟩
    case round =>
      obtain ⟨j, hj, rfl, pre, HP, M2⟩ := hrel
      clear M1
      have s2 : wr.cell? ⟨r, 2, none⟩ = some (.slice Av NT cv) := by rw [← HVT.out]; exact M2.out.cellat r 2 rfl
      by_cases hlt : j < NT
      · obtain ⟨y, hy⟩ : ∃ y, d.tl[j]? = some y := ⟨_, List.getElem?_eq_getElem (by rw [HNT.out]; exact hlt)⟩
        have HDR : Hid (pre ++ d.tl.drop j = pre ++ y :: d.tl.drop (j + 1)) := Lib.hid (by
          rw [List.drop_eq_getElem_cons (by rw [HNT.out]; exact hlt)]
          obtain ⟨h5, h6⟩ := List.getElem?_eq_some_iff.1 hy
          rw [h6])
        have hyb : y.bl.length ≤ 1000 := HBL.out y (List.mem_of_getElem? hy)
        have HY := Lib.hid hy
        obtain ⟨l2, hl2⟩ : ∃ l2, d.tl.drop (j + 1) = l2 := ⟨_, rfl⟩
        have HL2 := Lib.hid hl2
        rw [hl2] at HDR
        have M3 := M2
        rw [HDR.out] at M3
        have M4 := Lib.hid (Dl.take M3.out rfl)
        obtain ⟨yid, ytp, yA, yc, ybl⟩ := y
        have HPR : Hid ((pre ++ (⟨yid, ytp, yA, yc, ybl⟩ : DT) :: l2)[j]? = some ⟨yid, ytp, yA, yc, ybl⟩) := Lib.hid (by rw [← HP.out.1, List.getElem?_append_right (Nat.le_refl _), Nat.sub_self]; rfl)
        obtain ⟨A0, c0, hv0, -, -, hrow⟩ := Has.rwsv dt_rowT.len (M3.out.pick (Thrs d.vt (pre ++ (⟨yid, ytp, yA, yc, ybl⟩ : DT) :: l2)))
        obtain ⟨g, hA, -, hcell⟩ := hrow _ _ HPR.out
        subst hA
        have h9 := HVT.out
        rw [hv0] at h9
        injection h9 with e1 e2 e3
        subst e1 e3
        have t2 : wr.cell? ⟨g, j * 3 + 2, none⟩ = some (.slice yA ybl.length yc) := hcell 2 _ rfl
        clear hrow hcell hv0 e2 hy hl2 M2
        have hyb2 : ybl.length ≤ 1000 := hyb
        clear hyb
        have M5 : Hid (Has B w wr (Star (Blks (.slice none 0 0) []) (Star (Blks (.slice yA ybl.length yc) ybl) (DlX r { d with tl := pre ++ (⟨yid, ytp, yA, yc, ybl⟩ : DT) :: l2 } (pre ++ l2) (Star (Rf q (unmapsS L (gD n (d.tl.take j)))) Y))))) := Lib.hid (Has.rwsNil M4.out)
        obtain ⟨LL, hLL⟩ : ∃ LL, unmapsS L (gD n (d.tl.take j)) = LL := ⟨_, rfl⟩
        rw [hLL] at M5
        have HLL := Lib.hid hLL
        obtain ⟨dx, hdx⟩ : ∃ dx : Dt, { d with tl := pre ++ (⟨yid, ytp, yA, yc, ybl⟩ : DT) :: l2 } = dx := ⟨_, rfl⟩
        rw [hdx] at M5
        have HDX := Lib.hid hdx
        clear M3 M4 hLL hdx
        go_wp2_with fail
        clear s2 t2
        go_loopw [9, 44] (fun v i wr => ∃ m : Nat, m ≤ ybl.length ∧ i = .int .i64 m ∧ ∃ A9 n9 c9, v = .slice A9 n9 c9 ∧ Hid (Has B w wr (Star (Blks (.slice A9 n9 c9) ((ybl.take m).filter fun b => !decide (b.md = n))) (Star (Blks (.slice yA ybl.length yc) ybl) (DlX r dx (pre ++ l2) (Star (Rf q (unmapsS LL (((ybl.take m).filter fun b => decide (b.md = n)).map fun b => b.at_))) Y)))))) (fun _ i _ => ybl.length - (intOf i).toNat)
        case atStart => exact ⟨0, Nat.zero_le _, rfl, none, 0, 0, rfl, M5⟩
        case round =>
          obtain ⟨m, hm, rfl, A9, n9, c9, rfl, M6⟩ := hrel
          clear M5
          by_cases hlt2 : m < ybl.length
          · obtain ⟨b, hbm⟩ : ∃ b, ybl[m]? = some b := ⟨_, List.getElem?_eq_getElem hlt2⟩
            obtain ⟨A2, c2, hv2, -, -, hrow2⟩ := Has.rwsv rb_rowT.len (M6.out.pick (Blks (.slice yA ybl.length yc) ybl))
            cases hv2
            obtain ⟨bg, hbA, hbl2, hcb⟩ := hrow2 m b hbm
            subst hbA
            have cel : ∀ j' v, (#[.int .i64 b.md, .int .i64 b.gn, .int .i64 b.at_, .int .i64 b.sz] : Array Value).toList[j']? = some v → wr.cell? ⟨bg, m * 4 + j', none⟩ = some v := fun j' v hv => hcb j' v hv
            have HF1 := Lib.hid (fil_snoc (fun b : Bk => !decide (b.md = n)) ybl m b hbm)
            have HF2 := Lib.hid (fil_snoc (fun b : Bk => decide (b.md = n)) ybl m b hbm)
            have Na := Lib.hid (M6.out.newcel 96 #[.int .i64 0, .int .i64 0, .int .i64 0, .int .i64 0])
            have Nb := Lib.hid (Na.out.rowc wr.heap.size #[.int .i64 b.md, .int .i64 b.gn, .int .i64 b.at_, .int .i64 b.sz])
            clear hrow2 hcb hbm
            go_upto_region 13 with (first | (refine wpList_partW rfl 96 _ rfl bg (m * 4) rfl #[.int .i64 b.md, .int .i64 b.gn, .int .i64 b.at_, .int .i64 b.sz] _ cel Tryz.underlying96 rfl (by kernel_rfl) ?_) | (refine wpList_store_row rfl 96 _ _ rfl wr.heap.size #[.int .i64 b.md, .int .i64 b.gn, .int .i64 b.at_, .int .i64 b.sz] rfl rfl 96 #[.int .i64 0, .int .i64 0, .int .i64 0, .int .i64 0] (Na.out.getc wr.heap.size) (by kernel_rfl) rfl (by kernel_rfl) ?_))
            obtain ⟨W1, hW⟩ : ∃ W1, (wr.alloc (.cells #[.int .i64 0, .int .i64 0, .int .i64 0, .int .i64 0] 96)).setRow wr.heap.size #[.int .i64 b.md, .int .i64 b.gn, .int .i64 b.at_, .int .i64 b.sz] = W1 := ⟨_, rfl⟩
            rw [hW] at Nb ⊢
            clear hW Na M6 cel
            generalize wr.heap.size = x11 at Nb ⊢
            have b0 : W1.cell? ⟨x11, 0, none⟩ = some (.int .i64 b.md) := Nb.out.cellat x11 0 rfl
            by_cases hmd : b.md = n
            · have b2 : W1.cell? ⟨x11, 2, none⟩ = some (.int .i64 b.at_) := Nb.out.cellat x11 2 rfl
              have C2 := Lib.hid (own_runmap (Nb.out.pick (Rf q (unmapsS LL (((ybl.take m).filter fun b => decide (b.md = n)).map fun b => b.at_)))) b.at_)
              clear Nb
              go_wp2_with fail
              refine (C2.out).mono ?_
              rintro e w3 ⟨rfl, mm⟩
              have M7 : Hid (Has B w w3 (Star (Blks (.slice A9 n9 c9) ((ybl.take (m + 1)).filter fun b => !decide (b.md = n))) (Star (Blks (.slice (some ⟨bg, 0, none⟩) ybl.length yc) ybl) (DlX r dx (pre ++ l2) (Star (Rf q (unmapsS LL (((ybl.take (m + 1)).filter fun b => decide (b.md = n)).map fun b => b.at_))) Y))))) := Lib.hid (by
                rw [HF1.out, HF2.out, if_neg (by simp [hmd]), if_pos (by simp [hmd]), List.append_nil, List.map_append]
                rw [show (([b] : List Bk).map fun b => b.at_) = [b.at_] from rfl, unmapsS_snoc]
                exact mm.norm (Star (Blks (.slice A9 n9 c9) ((ybl.take m).filter fun b => !decide (b.md = n))) (Star (Blks (.slice (some ⟨bg, 0, none⟩) ybl.length yc) ybl) (DlX r dx (pre ++ l2) (Star (Rf q (unmapS (unmapsS LL (((ybl.take m).filter fun b => decide (b.md = n)).map fun b => b.at_)) b.at_).1) Y)))))
              clear mm C2
              go_wp2_with fail
              go_roundw
              case rel => exact ⟨m + 1, by omega, by go_num, A9, n9, c9, rfl, M7⟩
              case measure => simp [intOf]; omega
            · have hfl : ((ybl.take m).filter fun b => !decide (b.md = n)).length ≤ 1000 := Nat.le_trans (List.length_filter_le _ _) (by rw [List.length_take]; omega)
              obtain ⟨v', w', hr, mm⟩ := Has.append1 rb_rowT (Nb.out.pick (Blks (.slice A9 n9 c9) ((ybl.take m).filter fun b => !decide (b.md = n)))) b #[.int .i64 b.md, .int .i64 b.gn, .int .i64 b.at_, .int .i64 b.sz] rfl (by omega) 94
              obtain ⟨A2, c2, hv2, -, -, -⟩ := Has.rwsv rb_rowT.len mm
              generalize (((ybl.take m).filter fun b => !decide (b.md = n)) ++ [b]).length = n2 at hv2
              subst hv2
              have HR := Lib.hid hr
              have M7 : Hid (Has B w w' (Star (Blks (.slice A2 n2 c2) ((ybl.take (m + 1)).filter fun b => !decide (b.md = n))) (Star (Blks (.slice (some ⟨bg, 0, none⟩) ybl.length yc) ybl) (DlX r dx (pre ++ l2) (Star (Rf q (unmapsS LL (((ybl.take (m + 1)).filter fun b => decide (b.md = n)).map fun b => b.at_))) Y))))) := Lib.hid (by
                rw [HF1.out, HF2.out, if_pos (by simp [hmd]), if_neg (by simp [hmd]), List.append_nil]
                exact mm.norm (Star (Blks (.slice A2 n2 c2) (((ybl.take m).filter fun b => !decide (b.md = n)) ++ [b])) (Star (Blks (.slice (some ⟨bg, 0, none⟩) ybl.length yc) ybl) (DlX r dx (pre ++ l2) (Star (Rf q (unmapsS LL (((ybl.take m).filter fun b => decide (b.md = n)).map fun b => b.at_))) Y)))))
              clear hr mm hfl
              go_wp2_with (first | (refine wpList_load_row rfl 96 _ rfl x11 rfl 96 #[.int .i64 b.md, .int .i64 b.gn, .int .i64 b.at_, .int .i64 b.sz] (0, 0) _ (Nb.out.getc x11) Tryz.underlying96 rfl (by kernel_rfl) ?_) | (at_builtin; refine Lib.wpList_append_run _ rfl _ _ _ _ rfl _ _ rfl rfl _ _ HR.out ?_))
              go_roundw
              case rel => exact ⟨m + 1, by omega, by go_num, A2, n2, c2, rfl, M7⟩
              case measure => simp [intOf]; omega
          · obtain rfl : m = ybl.length := by omega
            rw [List.take_length] at M6
            have h8 := HDX.out
            subst h8
            clear HDX
            obtain ⟨A', c', hv', -, -, -⟩ := Has.rwsv rb_rowT.len M6.out
            injection hv' with e1 e2 e3
            subst e2
            obtain ⟨fl, hfl⟩ : ∃ fl, (ybl.filter fun b => !decide (b.md = n)) = fl := ⟨_, rfl⟩
            rw [hfl] at M6
            have HFL := Lib.hid hfl
            rw [hfl] at ⊢
            clear e1 e3 hfl
            have s2 : wr.cell? ⟨r, 2, none⟩ = some (.slice (some ⟨g, 0, none⟩) NT c0) := by rw [← HVT.out]; exact M6.out.cellat r 2 rfl
            have h7 := M6.out.pick (Thrs d.vt (pre ++ (⟨yid, ytp, yA, yc, ybl⟩ : DT) :: l2))
            rw [HVT.out] at h7
            have t2 : wr.cell? ⟨g, j * 3 + 2, none⟩ = some (.slice yA ybl.length yc) := by
              obtain ⟨A0, c1, hv0, -, -, hrow⟩ := Has.rwsv dt_rowT.len h7
              obtain ⟨g', hA, -, hcell⟩ := hrow _ _ HPR.out
              injection hv0 with e1
              rw [← e1] at hA
              cases hA
              exact hcell 2 _ rfl
            have fz : wr.frozen? ⟨g, j * 3 + 2, none⟩ = false := Has.rwsLive h7 _
            have M7 : Hid (Has B w (wr.setCell ⟨g, j * 3 + 2, none⟩ (.slice A9 fl.length c9)) (Dl r { d with tl := (pre ++ [⟨yid, ytp, A9, c9, fl⟩]) ++ d.tl.drop (j + 1) } (Star (Rf q (unmapsS L (gD n (d.tl.take (j + 1))))) Y))) := Lib.hid (by
              have h9 := h7.rwsSet dt_rowT.len j ⟨yid, ytp, yA, yc, ybl⟩ ⟨yid, ytp, A9, c9, fl⟩ HPR.out 2 (by decide) (.slice A9 fl.length c9) rfl
              rw [← HVT.out] at h9
              have e9 : (pre ++ (⟨yid, ytp, yA, yc, ybl⟩ : DT) :: l2).set j ⟨yid, ytp, A9, c9, fl⟩ = pre ++ (⟨yid, ytp, A9, c9, fl⟩ : DT) :: l2 := by
                rw [List.set_append_right _ _ (by rw [HP.out.1]; exact Nat.le_refl _), HP.out.1, Nat.sub_self]
                rfl
              rw [e9] at h9
              have h10 := h9.norm (Star (Blks (.slice A9 fl.length c9) fl) (Star (Cel r 33 (Dt.arr { d with tl := pre ++ (⟨yid, ytp, yA, yc, ybl⟩ : DT) :: l2 })) (Star (Mods d.vm d.ml) (Star (Gens d.vg d.gl) (Star (Thrs d.vt (pre ++ (⟨yid, ytp, A9, c9, fl⟩ : DT) :: l2)) (Star (All dtR (pre ++ l2)) (Star (Rf q (unmapsS LL ((ybl.filter fun b => decide (b.md = n)).map fun b => b.at_))) Y)))))))
              have h11 := Dl.give (r := r) (d := { d with tl := pre ++ (⟨yid, ytp, A9, c9, fl⟩ : DT) :: l2 }) (y := ⟨yid, ytp, A9, c9, fl⟩) (l1 := pre) (l2 := l2) h10
              rw [gD_snoc n d.tl j _ HY.out, unmapsS_app, HLL.out, HL2.out, List.append_assoc]
              exact h11)
            have HP2 : Hid ((pre ++ [(⟨yid, ytp, A9, c9, fl⟩ : DT)]).length = j + 1 ∧ (pre ++ [(⟨yid, ytp, A9, c9, fl⟩ : DT)]).map tKey = (d.tl.take (j + 1)).map (flD n)) := Lib.hid ⟨by rw [List.length_append, HP.out.1]; rfl, by
              rw [List.map_append, HP.out.2, List.take_add_one, HY.out, List.map_append]
              congr 1
              show [(yid, ytp, fl)] = [(yid, ytp, ybl.filter fun b => !decide (b.md = n))]
              rw [HFL.out]⟩
            clear h7 M6
            generalize fl.length = nfl at s2 M7 ⊢
            go_wp2_with fail
            go_roundw
            case rel => exact ⟨j + 1, by omega, by go_num, pre ++ [⟨yid, ytp, A9, c9, fl⟩], HP2, M7⟩
            case measure => simp [intOf]; omega
      · obtain rfl : j = NT := by omega
        have hdr : pre ++ d.tl.drop j = pre := by rw [← HNT.out, List.drop_length, List.append_nil]
        have htk : d.tl.take j = d.tl := by rw [← HNT.out, List.take_length]
        have hpm : pre.map tKey = d.tl.map (flD n) := by have h5 := HP.out.2; rwa [htk] at h5
        have HE2 := Lib.hid (fun w' vm => HE.out w' pre vm hpm)
        rw [hdr, htk] at M2
        clear hdr htk hpm HP HE hlt
        have s0 : wr.cell? ⟨r, 0, none⟩ = some (.slice (some ⟨gm, 0, none⟩) NM cm) := by rw [← HNM.out, ← HVM.out]; exact M2.out.cellat r 0 rfl
        have M5 := Lib.hid (M2.out.norm (Star (Mods d.vm d.ml) (Star (Cel r 33 (Dt.arr { d with tl := pre })) (Star (Gens d.vg d.gl) (Star (Thrs d.vt pre) (Star (All dtR pre) (Star (Rf q (unmapsS L (gD n d.tl))) Y)))))))
        have M6 := Lib.hid (Has.rwsNil (T := 107) (n := 6) (cells := dmC) M5.out)
        obtain ⟨v1, w4, hr1, m1'⟩ := Has.appendPart dm_rowT M6.out HVM.out 0 m1 (some ⟨gm, 0, none⟩) 0 rfl (fun i x hi => ⟨rfl, by rw [H1.out, Nat.zero_add, List.getElem?_append_left (List.getElem?_eq_some_iff.1 hi).1]; exact hi⟩) (by simp only [List.length_nil]; have := HNM2.out; omega) cm 29
        have HR1 := Lib.hid hr1
        rw [HKK.out] at HR1
        have M7 := Lib.hid m1'
        clear hr1 m1' M6 M5 M2
        go_upto_region 20 with (at_builtin; refine Lib.wpList_append_run _ rfl _ _ _ _ rfl _ _ rfl rfl _ _ HR1.out ?_)
        clear s0 s2 HR1
        have s0 : w4.cell? ⟨r, 0, none⟩ = some (.slice (some ⟨gm, 0, none⟩) NM cm) := by rw [← HNM.out, ← HVM.out]; exact M7.out.cellat r 0 rfl
        obtain ⟨v2, w5, hr2, mm⟩ := Has.appendPart dm_rowT M7.out HVM.out (kk + 1) m2 (if cm = kk + 1 then some ⟨gm, 0, none⟩ else some ⟨gm, (kk + 1) * 6, none⟩) ((kk + 1) * 6) rfl (fun i x hi => ⟨if_neg (by have := (List.getElem?_eq_some_iff.1 hi).1; have := HNM2.out; have := HKK.out; omega), by rw [H1.out, ← HKK.out, List.getElem?_append_right (by omega), show m1.length + 1 + i - m1.length = i + 1 by omega, List.getElem?_cons_succ]; exact hi⟩) (by simp only [List.length_nil, List.nil_append]; have := HNM2.out; omega) (cm - (kk + 1)) 29
        have HR2 := Lib.hid hr2
        rw [show m2.length = NM - (kk + 1) by have := HNM2.out; have := HKK.out; omega] at HR2
        rw [List.nil_append] at mm
        have M8 := Lib.hid mm
        clear hr2 mm M7
        go_upto_region 21 with (at_builtin; refine Lib.wpList_append_run _ rfl _ _ _ _ rfl _ _ rfl rfl _ _ HR2.out ?_)
        clear s0 HR2
        generalize (if cm = kk + 1 then (some ⟨gm, 0, none⟩ : Option Addr) else some ⟨gm, (kk + 1) * 6, none⟩) = A9
        obtain ⟨A2, c2, hv2, -, -, -⟩ := Has.rwsv dm_rowT.len M8.out
        generalize m1 ++ m2 = m12 at hv2 M8 HE2 ⊢
        generalize m12.length = n12 at hv2
        subst hv2
        have s0 : w5.cell? ⟨r, 0, none⟩ = some d.vm := M8.out.cellat r 0 rfl
        have f0 : w5.frozen? ⟨r, 0, none⟩ = false := M8.out.liveat r 0
        have M9 := Lib.hid (M8.out.cellc r 0 (.slice A2 n12 c2) (Dt.arr { d with ml := m12, tl := pre, vm := .slice A2 n12 c2 }) rfl)
        have HF : Hid (DRelE r q d L Y B w n (.returned (.int .i64 0)) (w5.setCell ⟨r, 0, none⟩ (.slice A2 n12 c2))) := Lib.hid (HE2.out _ (.slice A2 n12 c2) (M9.out.norm (Star (Cel r 33 (Dt.arr { d with ml := m12, tl := pre, vm := .slice A2 n12 c2 })) (Star (Mods (.slice A2 n12 c2) m12) (Star (Gens d.vg d.gl) (Star (Thrs d.vt pre) (Star (All dtR pre) (Star (Rf q (unmapsS L (gD n d.tl))) Y))))))))
        clear M9 M8
        go_wp2_with fail
        go_ret
        exact HF.out
end Go.Proofs.YtpenejigebkkmaaGreat
