/-
  Layer 17: tls.Start.
  Conditions: none. (My own text.)
-/
import Derived.Test.YtpenejigebkkmaaGreatTmg
namespace Go.Proofs.YtpenejigebkkmaaGreat
open Go.RowKit Spm
set_option linter.unusedVariables false
set_option linter.unusedSimpArgs false

attribute [local irreducible] wpList
theorem i64_wrap64 (n : Int) : IntKind.i64.wrap n = wrap64 n := by
  rw [IntKind.wrap_i64]
  unfold wrap64
  omega
def pokes (at_ : Int) (L : List Rg) (mz : List MdE) : List Rg := mz.foldl (fun L y => (setS L (wrap64 (at_ + y.x.bh)) (fullB y.x) 0).1) L
theorem pokes_snoc (at_ : Int) (L : List Rg) (mz : List MdE) (y : MdE) : pokes at_ L (mz ++ [y]) = (setS (pokes at_ L mz) (wrap64 (at_ + y.x.bh)) (fullB y.x) 0).1 := by
  unfold pokes
  rw [List.foldl_append]
  rfl
/-- Modules' sizes. -/
def MdsOk (l : List MdE) : Prop := ∀ y ∈ l, y.x.tm.length ≤ y.x.size ∧ y.x.size ≤ 4096
theorem mclk_new {α : Type} {ent : α → Ent} {key : α → Int} (hk : ∀ e, (ent e).1 = key e) {k : Int} {c : Nat} {l : List α} (h : efind key l k = none) : mclk (l.map ent) k c = c + 1 := by
  have := mget_efind (ent := ent) (key := key) hk k l
  rw [h] at this
  unfold mclk
  rw [this]
  rfl
theorem newth {B : Nat} {w wr : World} {Y : Res} {s : Nat} {t : Ts} {x : ThE} (h : Has B w wr (Star (Mp x.g (x.bl.map BkE.ent) x.c) (TlX s t t.tl Y))) : Has B w wr (TlX s t (t.tl ++ [x]) Y) := by
  apply Tl.give (l2 := [])
  rw [List.append_nil]
  exact h
def StartE (s : Nat) (t : Ts) (a : Nat) (L : List Rg) (Y : Res) (B : Nat) (w : World) (id : Int) (e : Ending) (w' : World) : Prop :=
  if (efind ThE.k t.tl id).isSome = true ∨ id < 0 ∨ 16 ≤ id then e = .returned (.tuple #[.int .i64 0, .int .i64 171]) ∧ Has B w w' (Tl s t (Star (Sp a L) Y))
  else if (mapS L (max 8 t.ar) 3).2.2 = 0 then ∃ mz g, List.Perm mz (t.ml.filter fun y => y.x.st) ∧ e = .returned (.tuple #[.int .i64 (mapS L (max 8 t.ar) 3).2.1, .int .i64 0]) ∧ Has B w w' (Tl s { t with sd := true, tl := t.tl ++ [⟨id, (mapS L (max 8 t.ar) 3).2.1, g, [], 0, t.tc⟩], tc := t.tc + 1 } (Star (Sp a (pokes (mapS L (max 8 t.ar) 3).2.1 (mapS L (max 8 t.ar) 3).1 mz)) Y))
  else e = .returned (.tuple #[.int .i64 0, .int .i64 (mapS L (max 8 t.ar) 3).2.2]) ∧ Has B w w' (Tl s t (Star (Sp a (mapS L (max 8 t.ar) 3).1) Y))
set_option maxRecDepth 100000 in
set_option maxHeartbeats 4000000 in
theorem tstart_any {B : Nat} {w wr : World} {Y : Res} [hY : Fr Y] {s a : Nat} {t : Ts} {L : List Rg} (h : Has B w wr (Tl s t (Star (Sp a L) Y))) (hg : TsGood t) (hmd : MdsOk t.ml) (id : Int) : Calls Tryz.prog 15 #[.pointer (some ⟨s, 0, none⟩), .pointer (some ⟨a, 0, none⟩), .int .i64 id] wr (StartE s t a L Y B w id) := by
  have M0 := Lib.hid h
  have HG := Lib.hid hg
  have HMO := Lib.hid hmd
  have s2 : wr.cell? ⟨s, 2, none⟩ = some (.map (some t.gt)) := M0.out.cellat s 2 rfl
  have hmg := mget_efind (ent := ThE.ent) (key := ThE.k) (fun _ => rfl) id t.tl
  clear h hg hmd
  cases hf : efind ThE.k t.tl id with
  | some x =>
    rw [hf] at hmg
    have hv : (mget (t.tl.map ThE.ent) id).getD (.agg #[.int .i64 0, .map none]) = .agg (thA x.tp x.g) := by rw [hmg]; rfl
    have hb : (mget (t.tl.map ThE.ent) id).isSome = true := by rw [hmg]; rfl
    have HE : Hid (∀ w', Has B w w' (Tl s t (Star (Sp a L) Y)) → StartE s t a L Y B w id (.returned (.tuple #[.int .i64 0, .int .i64 171])) w') := Lib.hid (fun w' hh => by unfold StartE; rw [hf, if_pos (.inl rfl)]; exact ⟨rfl, hh⟩)
    have Na := Lib.hid (M0.out.newcel 66 #[.int .i64 0, .map none])
    have Nb := Lib.hid ((Na.out.rowc wr.heap.size (thA x.tp x.g)).norm (Tl s t (Star (Sp a L) Y)))
    clear hmg hf
    go_enter Tryz.func15, Tryz.ntmps15
    go_wp2_with (first | (refine wpList_mlookR rfl 54 3 66 _ _ rfl Tryz.underlying54 Tryz.underlying3 t.gt _ _ rfl id rfl (M0.out.getm t.gt) (.agg #[.int .i64 0, .map none]) z_thr (.agg (thA x.tp x.g)) true hv hb ?_) | (refine wpList_store_row rfl 66 _ _ rfl wr.heap.size (thA x.tp x.g) rfl rfl 66 #[.int .i64 0, .map none] (Na.out.getc wr.heap.size) (by kernel_rfl) rfl (by kernel_rfl) ?_))
    go_ret2
    exact HE.out _ Nb.out
  | none =>
    rw [hf] at hmg
    have hv : (mget (t.tl.map ThE.ent) id).getD (.agg #[.int .i64 0, .map none]) = .agg #[.int .i64 0, .map none] := by rw [hmg]; rfl
    have hb : (mget (t.tl.map ThE.ent) id).isSome = false := by rw [hmg]; rfl
    have Na := Lib.hid (M0.out.newcel 66 #[.int .i64 0, .map none])
    have Nb := Lib.hid ((Na.out.rowc wr.heap.size #[.int .i64 0, .map none]).norm (Tl s t (Star (Sp a L) Y)))
    have HFN := Lib.hid hf
    have HBAD : Hid (id < 0 ∨ 16 ≤ id → ∀ w', Has B w w' (Tl s t (Star (Sp a L) Y)) → StartE s t a L Y B w id (.returned (.tuple #[.int .i64 0, .int .i64 171])) w') := Lib.hid (fun hbad w' hh => by unfold StartE; rw [if_pos (.inr hbad)]; exact ⟨rfl, hh⟩)
    clear hmg hf
    by_cases h1 : id < 0
    · have HE := Lib.hid (HBAD.out (.inl h1))
      go_enter Tryz.func15, Tryz.ntmps15
      go_wp2_with (first | (refine wpList_mlookR rfl 54 3 66 _ _ rfl Tryz.underlying54 Tryz.underlying3 t.gt _ _ rfl id rfl (M0.out.getm t.gt) (.agg #[.int .i64 0, .map none]) z_thr (.agg #[.int .i64 0, .map none]) false hv hb ?_) | (refine wpList_store_row rfl 66 _ _ rfl wr.heap.size #[.int .i64 0, .map none] rfl rfl 66 #[.int .i64 0, .map none] (Na.out.getc wr.heap.size) (by kernel_rfl) rfl (by kernel_rfl) ?_))
      go_ret2
      exact HE.out _ Nb.out
    by_cases h2 : 16 ≤ id
    · have HE := Lib.hid (HBAD.out (.inr h2))
      go_enter Tryz.func15, Tryz.ntmps15
      go_wp2_with (first | (refine wpList_mlookR rfl 54 3 66 _ _ rfl Tryz.underlying54 Tryz.underlying3 t.gt _ _ rfl id rfl (M0.out.getm t.gt) (.agg #[.int .i64 0, .map none]) z_thr (.agg #[.int .i64 0, .map none]) false hv hb ?_) | (refine wpList_store_row rfl 66 _ _ rfl wr.heap.size #[.int .i64 0, .map none] rfl rfl 66 #[.int .i64 0, .map none] (Na.out.getc wr.heap.size) (by kernel_rfl) rfl (by kernel_rfl) ?_))
      go_ret2
      exact HE.out _ Nb.out
    have HIN : Hid (¬ ((efind ThE.k t.tl id).isSome = true ∨ id < 0 ∨ 16 ≤ id)) := Lib.hid (by rw [HFN.out]; rintro (hh | hh | hh); cases hh; exact h1 hh; exact h2 hh)
    go_enter Tryz.func15, Tryz.ntmps15
    go_upto_region 4 with (first | (refine wpList_mlookR rfl 54 3 66 _ _ rfl Tryz.underlying54 Tryz.underlying3 t.gt _ _ rfl id rfl (M0.out.getm t.gt) (.agg #[.int .i64 0, .map none]) z_thr (.agg #[.int .i64 0, .map none]) false hv hb ?_) | (refine wpList_store_row rfl 66 _ _ rfl wr.heap.size #[.int .i64 0, .map none] rfl rfl 66 #[.int .i64 0, .map none] (Na.out.getc wr.heap.size) (by kernel_rfl) rfl (by kernel_rfl) ?_))
    obtain ⟨W1, hW⟩ : ∃ W1, (wr.alloc (.cells #[.int .i64 0, .map none] 66)).setRow wr.heap.size #[.int .i64 0, .map none] = W1 := ⟨_, rfl⟩
    rw [hW] at Nb ⊢
    clear hW Na s2 M0 hv hb HBAD
    have s4 : W1.cell? ⟨s, 4, none⟩ = some (.int .i64 t.ar) := Nb.out.cellat s 4 rfl
    have C1 := Lib.hid (own_map (Nb.out.pick (Sp a L)) (max 8 t.ar) 3)
    go_wp2_with fail
    refine (C1.out).mono ?_
    rintro e wa ⟨rfl, m⟩
    obtain ⟨⟨L1, at_, er⟩, hm⟩ : ∃ q, mapS L (max 8 t.ar) 3 = q := ⟨_, rfl⟩
    rw [hm] at m ⊢
    have HM := Lib.hid hm
    have Ma := Lib.hid (m.norm (Tl s t (Star (Sp a L1) Y)))
    clear hm m C1 s4 Nb
    have s0 : wa.cell? ⟨s, 0, none⟩ = some (.map (some t.gm)) := Ma.out.cellat s 0 rfl
    by_cases her : er = 0
    · subst her
      have HE : Hid (∀ w' mz g, List.Perm mz (t.ml.filter fun y => y.x.st) → Has B w w' (Tl s { t with sd := true, tl := t.tl ++ [⟨id, at_, g, [], 0, t.tc⟩], tc := t.tc + 1 } (Star (Sp a (pokes at_ L1 mz)) Y)) → StartE s t a L Y B w id (.returned (.tuple #[.int .i64 at_, .int .i64 0])) w') := Lib.hid (fun w' mz g hp hh => by unfold StartE; rw [if_neg HIN.out, HM.out, if_pos rfl]; exact ⟨mz, g, hp, rfl, hh⟩)
      have Mc := Lib.hid (Ma.out.newitr t.gm t.mc)
      go_upto_region 8 with (first | (refine wpList_mrange rfl 52 3 62 _ rfl Tryz.underlying52 t.gm (t.ml.map MdE.ent) t.mc rfl (Ma.out.getm t.gm) ?_))
      obtain ⟨W2, hW⟩ : ∃ W2, wa.alloc (.mapIter (some t.gm) t.mc #[] t.mc) = W2 := ⟨_, rfl⟩
      rw [hW] at Mc ⊢
      clear hW
      generalize wa.heap.size = it at Mc ⊢
      have M2 : Hid (Has B w W2 (Star (Itr it t.gm t.mc #[] t.mc) (Tl s t (Star (Sp a (pokes at_ L1 (([] : List MdE).filter fun y => y.x.st))) Y)))) := Mc
      clear Ma Mc s0
      simp only [Act.put, List.setIfInBounds_toArray, List.set_cons_succ, List.set_cons_zero]
      go_loopw [] (fun wr => ∃ (seen : Array Nat) (vis : List MdE), Hid ((vis ++ leftA MdE.b t.ml seen).Perm t.ml) ∧ Hid (Has B w wr (Star (Itr it t.gm t.mc seen t.mc) (Tl s t (Star (Sp a (pokes at_ L1 (vis.filter fun y => y.x.st))) Y))))) (fun wr => (leftA MdE.b t.ml (wr.iterSeen it)).length)
      case atStart => exact ⟨#[], [], Lib.hid (by rw [leftA_none]; exact List.Perm.refl _), M2⟩
      case round =>
        clear M2
        obtain ⟨seen, vis, HPM, M8⟩ := hrel
        obtain ⟨w8, hw8⟩ : ∃ w8, w8 = wr := ⟨_, rfl⟩
        rw [← hw8] at M8 ⊢
        clear hw8
        rcases run_mnextA (P := Tryz.prog) (ent := MdE.ent) (key := MdE.k) (val := fun y => .agg (mdA y.x y.v)) (st := MdE.b) (fun _ => rfl) M8.out.itr (M8.out.getm t.gm) HG.out.gdm.past (Nat.le_refl _) with ⟨hD, hr⟩ | ⟨y, hy, w9, hr, hi9, hk9⟩
        · have HD := Lib.hid hD
          clear hD
          have s3 : w8.cell? ⟨s, 3, none⟩ = some (.bool t.sd) := M8.out.cellat s 3 rfl
          have f3 : w8.frozen? ⟨s, 3, none⟩ = false := M8.out.liveat s 3
          have Mb := Lib.hid (M8.out.cellc s 3 (.bool true) ({ t with sd := true } : Ts).arr rfl)
          go_upto_region 13 with (first | (refine wpList_next0 rfl _ rfl it rfl hr ?_))
          obtain ⟨W5, hW⟩ : ∃ W5, w8.setCell ⟨s, 3, none⟩ (.bool true) = W5 := ⟨_, rfl⟩
          rw [hW] at Mb ⊢
          clear hW s3 f3
          have s2 : W5.cell? ⟨s, 2, none⟩ = some (.map (some t.gt)) := Mb.out.cellat s 2 rfl
          have Mc := Lib.hid Mb.out.newmp
          have Md := Lib.hid (Mc.out.setm t.gt (mset (t.tl.map ThE.ent) id (.agg (thA at_ W5.heap.size)) t.tc) (mclk (t.tl.map ThE.ent) id t.tc))
          have MZ : Hid (Has B w (World.putO (W5.alloc (.map #[] 0)) t.gt (.map ((mset (t.tl.map ThE.ent) id (.agg (thA at_ W5.heap.size)) t.tc).map entM).toArray (mclk (t.tl.map ThE.ent) id t.tc))) (Tl s { t with sd := true, tl := t.tl ++ [⟨id, at_, W5.heap.size, [], 0, t.tc⟩], tc := t.tc + 1 } (Star (Sp a (pokes at_ L1 (vis.filter fun y => y.x.st))) Y))) := Lib.hid (by
            have h1 := Md.out
            have e1 := mset_eset (ent := ThE.ent) (key := ThE.k) (st := ThE.b) (fun _ => rfl) (fun _ => rfl) (k := id) (v := .agg (thA at_ W5.heap.size)) (mk := fun b => (⟨id, at_, W5.heap.size, [], 0, b⟩ : ThE)) (fun _ => rfl) t.tc t.tl
            rw [eset_new HFN.out] at e1
            have e2 := mclk_new (ent := ThE.ent) (key := ThE.k) (fun _ => rfl) (c := t.tc) HFN.out
            rw [e1, e2] at h1 ⊢
            have h2 := h1.norm (Star (Mp W5.heap.size [] 0) (Star (Cel s 56 ({ t with sd := true } : Ts).arr) (Star (Mp t.gm (t.ml.map MdE.ent) t.mc) (Star (Mp t.gg (t.gl.map GnE.ent) t.gc) (Star (Mp t.gt ((t.tl ++ [(⟨id, at_, W5.heap.size, [], 0, t.tc⟩ : ThE)]).map ThE.ent) (t.tc + 1)) (Star (All mdR t.ml) (Star (All thR t.tl) (Star (Sp a (pokes at_ L1 (vis.filter fun y => y.x.st))) Y))))))))
            exact Tl.give (t := { t with sd := true, tl := t.tl ++ [⟨id, at_, W5.heap.size, [], 0, t.tc⟩], tc := t.tc + 1 }) (x := (⟨id, at_, W5.heap.size, [], 0, t.tc⟩ : ThE)) (l1 := t.tl) (l2 := []) (by rw [List.append_nil]; exact h2))
          have HP2 : Hid (List.Perm (vis.filter fun y => y.x.st) (t.ml.filter fun y => y.x.st)) := Lib.hid (by
            have h1 := HPM.out
            rw [HD.out, List.append_nil] at h1
            exact h1.filter _)
          clear Md
          go_wp2_with (first | (refine wpList_mmake rfl 64 rfl ?_) | (refine wpList_mset rfl 54 3 66 _ _ _ rfl Tryz.underlying54 Tryz.underlying3 t.gt _ t.tc rfl id rfl (.agg (thA at_ W5.heap.size)) rfl (Mc.out.getm t.gt) ?_))
          go_ret2
          exact HE.out _ _ _ HP2.out MZ.out
        · have hnd : (t.ml.map MdE.b).Nodup := by have := HG.out.gdm.born; rw [List.map_map] at this; exact this
          have M9 := Lib.hid (M8.out.stepitr hi9 hk9)
          have HLP := Lib.hid (leftA_push (st := MdE.b) hnd hy)
          have hyl := (List.mem_filter.1 hy).1
          have HSZ := Lib.hid M8.out.iseen
          have HYB := Lib.hid hyl
          obtain ⟨m1, m2, hml⟩ := List.append_of_mem hyl
          have HBY := Lib.hid (Tl.tmpl M9.out.right hml)
          obtain ⟨yA, yc, hyv, -, -⟩ := HBY.out.src
          have HYV := Lib.hid hyv
          have HPF : Hid (((vis ++ [y]) ++ leftA MdE.b t.ml (seen.push y.b)).Perm t.ml) := Lib.hid (by
            refine List.Perm.trans ?_ HPM.out
            rw [List.append_assoc]
            exact (HLP.out.symm.append_left vis))
          have HMS : Hid (∀ (wa : World) (X : Res), Has B w wa (Star (Itr it t.gm t.mc (seen.push y.b) t.mc) X) → (leftA MdE.b t.ml (wa.iterSeen it)).length < (leftA MdE.b t.ml (w8.iterSeen it)).length) := Lib.hid (by
            intro wa X hh
            rw [hh.iseen, HSZ.out]
            have := HLP.out.length_eq
            simp only [List.length_cons] at this
            omega)
          have Na := Lib.hid (M9.out.newcel 62 #[.int .i64 0, .int .i64 0, .slice none 0 0, .bool false, .int .i64 0])
          have Nb := Lib.hid (Na.out.rowc w9.heap.size (mdA y.x y.v))
          clear hy hnd hyl hml hyv
          go_upto_region 10 with (first | (refine wpList_next0 rfl _ rfl it rfl hr ?_) | (refine wpList_mentryA (ent := MdE.ent) (key := MdE.k) (val := fun y => .agg (mdA y.x y.v)) (st := MdE.b) (fun _ => rfl) rfl _ rfl it t.gm t.mc t.mc seen t.ml y rfl M9.out.itr (M9.out.getm t.gm) HYB.out HG.out.gdm.born ?_) | (refine wpList_store_row rfl 62 _ _ rfl w9.heap.size (mdA y.x y.v) rfl rfl 62 #[.int .i64 0, .int .i64 0, .slice none 0 0, .bool false, .int .i64 0] (Na.out.getc w9.heap.size) (by kernel_rfl) rfl (mdA_one HYV.out) ?_))
          obtain ⟨W3, hW⟩ : ∃ W3, (w9.alloc (.cells #[.int .i64 0, .int .i64 0, .slice none 0 0, .bool false, .int .i64 0] 62)).setRow w9.heap.size (mdA y.x y.v) = W3 := ⟨_, rfl⟩
          rw [hW] at Nb ⊢
          clear hW Na hr
          generalize w9.heap.size = q at Nb ⊢
          have HQ := Lib.hid (Nb.out.getc q)
          have HBY3 : Hid (Bys W3 0 y.v y.x.tm) := Lib.hid (by
            have h1 : y ∈ t.ml := HYB.out
            obtain ⟨m1, m2, hml⟩ := List.append_of_mem h1
            exact Tl.tmpl Nb.out.right.right hml)
          clear M9 HBY
          cases hst : y.x.st with
          | false =>
            have q3 : W3.cell? ⟨q, 3, none⟩ = some (.bool false) := by rw [← hst]; exact Nb.out.cellat q 3 rfl
            have Mb : Hid (Has B w W3 (Star (Itr it t.gm t.mc (seen.push y.b) t.mc) (Tl s t (Star (Sp a (pokes at_ L1 ((vis ++ [y]).filter fun y => y.x.st))) Y)))) := Lib.hid (by
              rw [List.filter_append, List.filter_cons, hst]
              simp only [Bool.false_eq_true, if_false, List.filter_nil, List.append_nil]
              exact Nb.out.norm _)
            have HM := Lib.hid (HMS.out _ _ Mb.out)
            clear hst
            go_wp2_with fail
            first
              | (go_roundw
                 case rel => exact ⟨_, _, HPF, Mb⟩
                 case measure => exact HM.out)
              | (refine ⟨?_, ?_⟩
                 · (repeat apply Exists.intro)
                   refine ⟨?_, rfl⟩
                   exact ⟨_, _, HPF, Mb⟩
                 · exact HM.out)
              | exact ⟨⟨_, _, HPF, Mb⟩, HM.out⟩
          | true =>
            have q3 : W3.cell? ⟨q, 3, none⟩ = some (.bool true) := by rw [← hst]; exact Nb.out.cellat q 3 rfl
            have HFL : Hid ((vis ++ [y]).filter (fun y => y.x.st) = vis.filter (fun y => y.x.st) ++ [y]) := Lib.hid (by
              rw [List.filter_append, List.filter_cons, hst]
              simp)
            clear hst
            go_upto_region 11 with fail
            have HC : Hid (∀ X : World, Blk X q 62 (mdA y.x y.v) → X.cell? ⟨q, 4, none⟩ = some (.int .i64 y.x.bh)) := Lib.hid (fun X h => by rw [h.cell]; rfl)
            have hS0 : (fun X : World => Blk X q 62 (mdA y.x y.v)) W3.drew := HQ.out
            refine wp_region_noPanic ?_
            refine wp_region_held_drew (S := fun X : World => Blk X q 62 (mdA y.x y.v)) (by kernel_rfl) hS0 ?_
            clear hS0
            intro hS
            refine takeR (i := 0) (v := .pointer (some ⟨a, 0, none⟩)) 56 rfl (by kernel_rfl) (by kernel_rfl) (by kernel_rfl) (by kernel_rfl) (fun _ _ _ h => h) (yields_pure (by kernel_rfl) (fun w => by kernel_rfl)) hS ?_
            refine takeR (i := 1) (v := .int .i64 at_) 57 rfl (by kernel_rfl) (by kernel_rfl) (by kernel_rfl) (by kernel_rfl) (fun _ _ _ h => h) (yields_pure (by kernel_rfl) (fun w => by kernel_rfl)) hS ?_
            refine takeR (i := 2) (v := .pointer (some ⟨q, 4, none⟩)) 58 rfl (by kernel_rfl) (by kernel_rfl) (by kernel_rfl) (by kernel_rfl) (fun _ _ _ h => h) (yields_pure (by kernel_rfl) (fun w => by kernel_rfl)) hS ?_
            refine takeR (i := 3) 59 rfl (by kernel_rfl) (by kernel_rfl) (by kernel_rfl) (by kernel_rfl) (fun _ _ _ h => h) (yields_load_cell (by kernel_rfl) 3 _ rfl q 4 (by kernel_rfl) (.int .i64 y.x.bh) (fun X h => HC.out X h) _ Tryz.underlying3 rfl) hS ?_
            refine takeR (i := 4) (v := .int .i64 (wrap64 (at_ + y.x.bh))) 60 rfl (by kernel_rfl) (by kernel_rfl) (by kernel_rfl) (by kernel_rfl) (fun _ _ _ h => h) (yields_pure (by kernel_rfl) (fun w => (show _ = Result.ok (Next.value (.int .i64 (IntKind.i64.wrap (at_ + y.x.bh)))) w by kernel_rfl).trans (by rw [i64_wrap64]))) hS ?_
            refine takeR (i := 5) 61 rfl (by kernel_rfl) (by kernel_rfl) (by kernel_rfl) (by kernel_rfl) (fun _ _ _ h => h) (yields_load_row (by kernel_rfl) 62 _ rfl q (by kernel_rfl) 62 (mdA y.x y.v) _ (fun X h => h) Tryz.underlying62 rfl (by kernel_rfl)) hS ?_
            refine wpAnyH_all (rs := [6]) (by kernel_rfl) (by simp) ?_
            intro j hj
            obtain rfl : j = 6 := by simpa using hj
            have hbd : Bys W3.drew 0 y.v y.x.tm := HBY3.out
            refine opR_call 62 rfl rfl (by kernel_rfl) _ _ _ rfl _ (by kernel_rfl) ((tbytes_any hbd (HMO.out y HYB.out).1 (HMO.out y HYB.out).2).mono ?_)
            rintro e X1 ⟨v2, rfl, hb2, hbel⟩
            have Nd := Lib.hid (Nb.out.stay ((Below.refl _ W3).drew.trans hbel))
            have hS1 : Blk X1 q 62 (mdA y.x y.v) := Nd.out.getc q
            refine ⟨_, rfl, hS1, ?_⟩
            clear hS
            have hS := hS1
            clear hS1
            obtain ⟨uA, uc, hu, -, hsrc⟩ := hb2.src
            have C2 := Lib.hid (own_poke (Nd.out.pick (Sp a (pokes at_ L1 (vis.filter fun y => y.x.st)))) (wrap64 (at_ + y.x.bh)) (by unfold wrap64; omega) uA uc (fullB y.x) (by have := fullB_len (HMO.out y HYB.out).1; have := (HMO.out y HYB.out).2; omega) hsrc)
            rw [← hu] at C2
            refine wpAnyH_all (rs := [7]) (by kernel_rfl) (by simp) ?_
            intro j hj
            obtain rfl : j = 7 := by simpa using hj
            refine opR_call 63 rfl rfl (by kernel_rfl) _ _ _ rfl _ (by kernel_rfl) ((C2.out).mono ?_)
            rintro e wa ⟨rfl, m⟩
            have hS1 : Blk wa q 62 (mdA y.x y.v) := m.getc q
            refine ⟨_, rfl, hS1, ?_⟩
            refine wpAnyH_done (by kernel_rfl) ?_ _
            refine NoPanic.normal ?_
            simp only [Act.put, List.setIfInBounds_toArray, List.set_cons_succ, List.set_cons_zero]
            have Mb : Hid (Has B w wa (Star (Itr it t.gm t.mc (seen.push y.b) t.mc) (Tl s t (Star (Sp a (pokes at_ L1 ((vis ++ [y]).filter fun y => y.x.st))) Y)))) := Lib.hid (by
              rw [HFL.out, pokes_snoc]
              exact m.norm _)
            have HM := Lib.hid (HMS.out _ _ Mb.out)
            clear hS hS1 m C2 hu hsrc hb2 hbel hbd Nd q3
            go_wp2_with fail
            first
              | (go_roundw
                 case rel => exact ⟨_, _, HPF, Mb⟩
                 case measure => exact HM.out)
              | (refine ⟨?_, ?_⟩
                 · (repeat apply Exists.intro)
                   refine ⟨?_, rfl⟩
                   exact ⟨_, _, HPF, Mb⟩
                 · exact HM.out)
              | exact ⟨⟨_, _, HPF, Mb⟩, HM.out⟩
    · have HE : Hid (∀ w', Has B w w' (Tl s t (Star (Sp a L1) Y)) → StartE s t a L Y B w id (.returned (.tuple #[.int .i64 0, .int .i64 er])) w') := Lib.hid (fun w' hh => by unfold StartE; rw [if_neg HIN.out, HM.out, if_neg her]; exact ⟨rfl, hh⟩)
      go_wp2_with fail
      go_ret2
      exact HE.out _ Ma.out
end Go.Proofs.YtpenejigebkkmaaGreat
