/-
  Layer 17: a state whose templates belong to another one (an elder state behind a copy): Exit, Release.
  Layer 17: a state whose templates belong to another one: Register of what is not static.
  Conditions: none. (My own text.)
-/
import Derived.Test.YtpenejigebkkmaaGreatTgb
namespace Go.Proofs.YtpenejigebkkmaaGreat
open Go.RowKit Spm
set_option linter.unusedVariables false
set_option linter.unusedSimpArgs false

attribute [local irreducible] wpList
def mdW (e : MdE) : Res := fun _ _ => ∃ A n c, e.v = .slice A n c
instance fr_mdW (e : MdE) : Fr (mdW e) := ⟨fun h _ => h, fun h _ => h⟩
theorem bt_mdW {e : MdE} {v : Value} {b : List UInt8} {X : Res} {w : World} {F : Nat → Prop} (hv : e.v = v) (h : Star (Bt v b) X w F) : Star (mdW e) X w F := by
  obtain ⟨F1, F2, h1, h2, hd, g1, g2⟩ := h
  obtain ⟨A, c, h3, -⟩ := h1.1.src
  exact ⟨F1, F2, ⟨A, _, c, hv.trans h3⟩, h2, hd, g1, g2⟩
theorem all_mdW {w : World} : ∀ {l : List MdE}, (∀ e ∈ l, ∃ A n c, e.v = .slice A n c) → All mdW l w (fun _ => False)
  | [], _ => trivial
  | e :: l, h => ⟨fun _ => False, fun _ => False, h e (by simp), all_mdW (fun x hx => h x (by simp [hx])), fun _ h => h.elim, fun _ h => h, fun _ h => h⟩
abbrev Tw (s : Nat) (t : Ts) (Y : Res) : Res := Star (Cel s 56 t.arr) (Star (Mp t.gm (t.ml.map MdE.ent) t.mc) (Star (Mp t.gg (t.gl.map GnE.ent) t.gc) (Star (Mp t.gt (t.tl.map ThE.ent) t.tc) (Star (All mdW t.ml) (Star (All thR t.tl) Y)))))
theorem star_fst {X Y : Res} {w : World} {F : Nat → Prop} (h : Star X Y w F) : ∃ F1, X w F1 := by
  obtain ⟨F1, F2, h1, -⟩ := h
  exact ⟨F1, h1⟩
abbrev TwX (s : Nat) (t : Ts) (tl : List ThE) (Y : Res) : Res := Star (Cel s 56 t.arr) (Star (Mp t.gm (t.ml.map MdE.ent) t.mc) (Star (Mp t.gg (t.gl.map GnE.ent) t.gc) (Star (Mp t.gt (t.tl.map ThE.ent) t.tc) (Star (All mdW t.ml) (Star (All thR tl) Y)))))
theorem TwX.take {B : Nat} {w wr : World} {Y : Res} {s : Nat} {t : Ts} {x : ThE} {tl l1 l2 : List ThE} (h : Has B w wr (TwX s t tl Y)) (e : tl = l1 ++ x :: l2) : Has B w wr (Star (Mp x.g (x.bl.map BkE.ent) x.c) (TwX s t (l1 ++ l2) Y)) := by
  subst e
  have h2 := h.imp (fun F => Star.under fun F => Star.under fun F => Star.under fun F => Star.under fun F => Star.under fun F => all_out)
  have h3 := h2.imp (fun F => Star.under fun F => Star.under fun F => Star.under fun F => Star.under fun F => Star.swap)
  have h4 := h3.imp (fun F => Star.under fun F => Star.under fun F => Star.under fun F => Star.swap)
  have h5 := h4.imp (fun F => Star.under fun F => Star.under fun F => Star.swap)
  have h6 := h5.imp (fun F => Star.under fun F => Star.swap)
  exact h6.swap
theorem Tw.take {B : Nat} {w wr : World} {Y : Res} {s : Nat} {t : Ts} {x : ThE} {l1 l2 : List ThE} (h : Has B w wr (Tw s t Y)) (e : t.tl = l1 ++ x :: l2) : Has B w wr (Star (Mp x.g (x.bl.map BkE.ent) x.c) (TwX s t (l1 ++ l2) Y)) := TwX.take h e
theorem Tw.give {B : Nat} {w wr : World} {Y : Res} {s : Nat} {t : Ts} {x : ThE} {l1 l2 : List ThE} (h : Has B w wr (Star (Mp x.g (x.bl.map BkE.ent) x.c) (TwX s t (l1 ++ l2) Y))) : Has B w wr (TwX s t (l1 ++ x :: l2) Y) := by
  have h6 := h.swap
  have h5 := h6.imp (fun F => Star.under fun F => Star.swap)
  have h4 := h5.imp (fun F => Star.under fun F => Star.under fun F => Star.swap)
  have h3 := h4.imp (fun F => Star.under fun F => Star.under fun F => Star.under fun F => Star.swap)
  have h2 := h3.imp (fun F => Star.under fun F => Star.under fun F => Star.under fun F => Star.under fun F => Star.swap)
  exact h2.imp (fun F => Star.under fun F => Star.under fun F => Star.under fun F => Star.under fun F => Star.under fun F => all_put (f := thR) (x := x))
def ExitW (s : Nat) (t : Ts) (a : Nat) (L : List Rg) (Y : Res) (B : Nat) (w : World) (id : Int) (e : Ending) (w' : World) : Prop := match efind ThE.k t.tl id with
  | none => e = .returned (.int .i64 171) ∧ Has B w w' (Tw s t (Star (Sp a L) Y))
  | some x => e = .returned (.int .i64 0) ∧ ∃ az, az.Perm (x.bl.map fun y => y.x.at_) ∧ Has B w w' (Tw s { t with tl := edel ThE.k t.tl id } (Star (Sp a (unmapS (unmapsS L az) x.tp).1) Y))
set_option maxRecDepth 100000 in
set_option maxHeartbeats 4000000 in
theorem wexit_any {B : Nat} {w wr : World} {Y : Res} [hY : Fr Y] {s a : Nat} {t : Ts} {L : List Rg} (h : Has B w wr (Tw s t (Star (Sp a L) Y))) (hg : TsGood t) (id : Int) : Calls Tryz.prog 11 #[.pointer (some ⟨s, 0, none⟩), .pointer (some ⟨a, 0, none⟩), .int .i64 id] wr (ExitW s t a L Y B w id) := by
  have M0 := Lib.hid h
  have HG := Lib.hid hg
  have s2 : wr.cell? ⟨s, 2, none⟩ = some (.map (some t.gt)) := M0.out.cellat s 2 rfl
  have hmg := mget_efind (ent := ThE.ent) (key := ThE.k) (fun _ => rfl) id t.tl
  clear h hg
  cases hf : efind ThE.k t.tl id with
  | none =>
    rw [hf] at hmg
    have hv : (mget (t.tl.map ThE.ent) id).getD (.agg #[.int .i64 0, .map none]) = .agg #[.int .i64 0, .map none] := by rw [hmg]; rfl
    have hb : (mget (t.tl.map ThE.ent) id).isSome = false := by rw [hmg]; rfl
    have HE : Hid (∀ w', Has B w w' (Tw s t (Star (Sp a L) Y)) → ExitW s t a L Y B w id (.returned (.int .i64 171)) w') := Lib.hid (fun w' hh => by unfold ExitW; rw [hf]; exact ⟨rfl, hh⟩)
    have Na := Lib.hid (M0.out.newcel 66 #[.int .i64 0, .map none])
    have Nb := Lib.hid ((Na.out.rowc wr.heap.size #[.int .i64 0, .map none]).norm (Tw s t (Star (Sp a L) Y)))
    clear hmg hf
    go_enter Tryz.func11, Tryz.ntmps11
    go_wp2_with (first | (refine wpList_mlookR rfl 54 3 66 _ _ rfl Tryz.underlying54 Tryz.underlying3 t.gt _ _ rfl id rfl (M0.out.getm t.gt) (.agg #[.int .i64 0, .map none]) z_thr (.agg #[.int .i64 0, .map none]) false hv hb ?_) | (refine wpList_store_row rfl 66 _ _ rfl wr.heap.size #[.int .i64 0, .map none] rfl rfl 66 #[.int .i64 0, .map none] (Na.out.getc wr.heap.size) (by kernel_rfl) rfl (by kernel_rfl) ?_))
    go_ret
    exact HE.out _ Nb.out
  | some x =>
    rw [hf] at hmg
    obtain ⟨l1, l2, hl, hdel, hkx, -⟩ := efind_split hf
    have hv : (mget (t.tl.map ThE.ent) id).getD (.agg #[.int .i64 0, .map none]) = .agg (thA x.tp x.g) := by rw [hmg]; rfl
    have hb : (mget (t.tl.map ThE.ent) id).isSome = true := by rw [hmg]; rfl
    have HGB : Hid (Good (x.bl.map BkE.ent) x.c) := Lib.hid (HG.out.gdb x (by rw [hl]; simp))
    have HE : Hid (∀ w' az, az.Perm (x.bl.map fun y => y.x.at_) → Has B w w' (Tw s { t with tl := edel ThE.k t.tl id } (Star (Sp a (unmapS (unmapsS L az) x.tp).1) Y)) → ExitW s t a L Y B w id (.returned (.int .i64 0)) w') := Lib.hid (fun w' az hp hh => by unfold ExitW; rw [hf]; exact ⟨rfl, az, hp, hh⟩)
    have M1 := Lib.hid (Tw.take M0.out hl)
    have HDL := Lib.hid hdel
    have HMD := Lib.hid (mdel_edel (ent := ThE.ent) (key := ThE.k) (fun _ => rfl) id t.tl)
    have Na := Lib.hid (M1.out.newcel 66 #[.int .i64 0, .map none])
    have Nb := Lib.hid (Na.out.rowc wr.heap.size (thA x.tp x.g))
    clear hmg hf hl hdel hkx
    go_enter Tryz.func11, Tryz.ntmps11
    go_upto_region 2 with (first | (refine wpList_mlookR rfl 54 3 66 _ _ rfl Tryz.underlying54 Tryz.underlying3 t.gt _ _ rfl id rfl (M0.out.getm t.gt) (.agg #[.int .i64 0, .map none]) z_thr (.agg (thA x.tp x.g)) true hv hb ?_) | (refine wpList_store_row rfl 66 _ _ rfl wr.heap.size (thA x.tp x.g) rfl rfl 66 #[.int .i64 0, .map none] (Na.out.getc wr.heap.size) (by kernel_rfl) rfl (by kernel_rfl) ?_))
    obtain ⟨W1, hW⟩ : ∃ W1, (wr.alloc (.cells #[.int .i64 0, .map none] 66)).setRow wr.heap.size (thA x.tp x.g) = W1 := ⟨_, rfl⟩
    rw [hW] at Nb ⊢
    clear hW Na s2 M0 M1
    generalize wr.heap.size = x7 at Nb ⊢
    have x71 : W1.cell? ⟨x7, 1, none⟩ = some (.map (some x.g)) := Nb.out.cellat x7 1 rfl
    have Ma := Lib.hid (Nb.out.newitr x.g x.c)
    go_upto_region 5 with (first | (refine wpList_mrange rfl 64 3 69 _ rfl Tryz.underlying64 x.g (x.bl.map BkE.ent) x.c rfl (Nb.out.getm x.g) ?_))
    obtain ⟨W2, hW⟩ : ∃ W2, W1.alloc (.mapIter (some x.g) x.c #[] x.c) = W2 := ⟨_, rfl⟩
    rw [hW] at Ma ⊢
    clear hW
    generalize W1.heap.size = it at Ma ⊢
    have M2 : Hid (Has B w W2 (Star (Itr it x.g x.c #[] x.c) (Star (Cel x7 66 (thA x.tp x.g)) (Star (Mp x.g (x.bl.map BkE.ent) x.c) (TwX s t (l1 ++ l2) (Star (Sp a (unmapsS L [])) Y)))))) := Ma
    clear Ma Nb x71
    simp only [Act.put, List.setIfInBounds_toArray, List.set_cons_succ, List.set_cons_zero]
    go_loopw [] (fun wr => ∃ (seen : Array Nat) (vis : List BkE), Hid ((vis ++ leftA BkE.b x.bl seen).Perm x.bl) ∧ Hid (Has B w wr (Star (Itr it x.g x.c seen x.c) (Star (Cel x7 66 (thA x.tp x.g)) (Star (Mp x.g (x.bl.map BkE.ent) x.c) (TwX s t (l1 ++ l2) (Star (Sp a (unmapsS L (vis.map fun y => y.x.at_))) Y))))))) (fun wr => (leftA BkE.b x.bl (wr.iterSeen it)).length)
    case atStart => exact ⟨#[], [], Lib.hid (by rw [leftA_none]; exact List.Perm.refl _), M2⟩
    case round =>
      clear M2
      obtain ⟨seen, vis, HPM, M8⟩ := hrel
      obtain ⟨w8, hw8⟩ : ∃ w8, w8 = wr := ⟨_, rfl⟩
      rw [← hw8] at M8 ⊢
      clear hw8
      rcases run_mnextA (P := Tryz.prog) (ent := BkE.ent) (key := BkE.k) (val := fun y => .agg (bkA y.x)) (st := BkE.b) (fun _ => rfl) M8.out.itr (M8.out.getm x.g) HGB.out.past (Nat.le_refl _) with ⟨hD, hr⟩ | ⟨y, hy, w9, hr, hi9, hk9⟩
      · have HD := Lib.hid hD
        clear hD
        have x70 : w8.cell? ⟨x7, 0, none⟩ = some (.int .i64 x.tp) := M8.out.cellat x7 0 rfl
        have C1 := Lib.hid (own_unmap (M8.out.pick (Sp a (unmapsS L (vis.map fun y => y.x.at_)))) x.tp)
        go_wp2_with (first | (refine wpList_next0 rfl _ rfl it rfl hr ?_))
        refine (C1.out).mono ?_
        rintro e wa ⟨rfl, m⟩
        have Ma := Lib.hid (m.norm (TwX s t (l1 ++ l2) (Star (Sp a (unmapS (unmapsS L (vis.map fun y => y.x.at_)) x.tp).1) Y)))
        have sa : wa.cell? ⟨s, 2, none⟩ = some (.map (some t.gt)) := Ma.out.cellat s 2 rfl
        clear m C1 x70 hr M8
        have Mb := Lib.hid (Ma.out.setm t.gt (mdel (t.tl.map ThE.ent) id) t.tc)
        have MZ : Hid (Has B w (World.putO wa t.gt (.map ((mdel (t.tl.map ThE.ent) id).map entM).toArray t.tc)) (Tw s { t with tl := edel ThE.k t.tl id } (Star (Sp a (unmapS (unmapsS L (vis.map fun y => y.x.at_)) x.tp).1) Y))) := Lib.hid (by
          have h1 := Mb.out
          rw [← HDL.out] at h1
          have h2 := HMD.out
          rw [h2] at h1 ⊢
          exact h1)
        have HP2 : Hid ((vis.map fun y => y.x.at_).Perm (x.bl.map fun y => y.x.at_)) := Lib.hid (by
          have h1 := HPM.out
          rw [HD.out, List.append_nil] at h1
          exact h1.map _)
        clear Mb
        go_wp2_with (first | (refine wpList_mdel rfl 54 3 66 _ _ _ rfl Tryz.underlying54 Tryz.underlying3 t.gt _ t.tc rfl id rfl (Ma.out.getm t.gt) ?_))
        go_ret
        exact HE.out _ _ HP2.out MZ.out
      · have M9 := Lib.hid (M8.out.stepitr hi9 hk9)
        have HLP := Lib.hid (leftA_push (st := BkE.b) (by have := HGB.out.born; rw [List.map_map] at this; exact this) hy)
        have hyb : y ∈ x.bl := (List.mem_filter.1 hy).1
        have HSZ := Lib.hid M8.out.iseen
        have HYB := Lib.hid hyb
        have hse : w9.heap.size = w9.heap.size := rfl
        have Na := Lib.hid (M9.out.newcel 69 #[.int .i64 0, .int .i64 0, .int .i64 0, .int .i64 0])
        have Nb := Lib.hid (Na.out.rowc w9.heap.size (bkA y.x))
        clear hy hyb hi9 hk9 hse
        go_upto_region 7 with (first | (refine wpList_next0 rfl _ rfl it rfl hr ?_) | (refine wpList_mentryA (ent := BkE.ent) (key := BkE.k) (val := fun y => .agg (bkA y.x)) (st := BkE.b) (fun _ => rfl) rfl _ rfl it x.g x.c x.c seen x.bl y rfl M9.out.itr (M9.out.getm x.g) HYB.out HGB.out.born ?_) | (refine wpList_store_row rfl 69 _ _ rfl w9.heap.size (bkA y.x) rfl rfl 69 #[.int .i64 0, .int .i64 0, .int .i64 0, .int .i64 0] (Na.out.getc w9.heap.size) (by kernel_rfl) rfl (by kernel_rfl) ?_))
        obtain ⟨W3, hW⟩ : ∃ W3, (w9.alloc (.cells #[.int .i64 0, .int .i64 0, .int .i64 0, .int .i64 0] 69)).setRow w9.heap.size (bkA y.x) = W3 := ⟨_, rfl⟩
        rw [hW] at Nb ⊢
        clear hW Na hr
        generalize w9.heap.size = x10 at Nb ⊢
        have y2 : W3.cell? ⟨x10, 2, none⟩ = some (.int .i64 y.x.at_) := Nb.out.cellat x10 2 rfl
        have C2 := Lib.hid (own_unmap (Nb.out.pick (Sp a (unmapsS L (vis.map fun y => y.x.at_)))) y.x.at_)
        clear M9
        go_wp2_with fail
        refine (C2.out).mono ?_
        rintro e wa ⟨rfl, m⟩
        have Ma := Lib.hid (m.norm (Star (Itr it x.g x.c (seen.push y.b) x.c) (Star (Cel x7 66 (thA x.tp x.g)) (Star (Mp x.g (x.bl.map BkE.ent) x.c) (TwX s t (l1 ++ l2) (Star (Sp a (unmapS (unmapsS L (vis.map fun y => y.x.at_)) y.x.at_).1) Y))))))
        have Mb : Hid (Has B w wa (Star (Itr it x.g x.c (seen.push y.b) x.c) (Star (Cel x7 66 (thA x.tp x.g)) (Star (Mp x.g (x.bl.map BkE.ent) x.c) (TwX s t (l1 ++ l2) (Star (Sp a (unmapsS L ((vis ++ [y]).map fun y => y.x.at_))) Y)))))) := Lib.hid (by
          have h1 := Ma.out
          rw [List.map_append, List.map_cons, List.map_nil, unmapsS_snoc]
          exact h1)
        have HP2 : Hid (((vis ++ [y]) ++ leftA BkE.b x.bl (seen.push y.b)).Perm x.bl) := Lib.hid (by
          refine List.Perm.trans ?_ HPM.out
          rw [List.append_assoc]
          exact (HLP.out.symm.append_left vis))
        have HM : Hid ((leftA BkE.b x.bl (wa.iterSeen it)).length < (leftA BkE.b x.bl (w8.iterSeen it)).length) := Lib.hid (by
          rw [Mb.out.iseen, HSZ.out]
          have := HLP.out.length_eq
          simp only [List.length_cons] at this
          omega)
        clear m C2 y2 Nb Ma
        go_wp2_with fail
        first
          | (go_roundw
             case rel => exact ⟨_, _, HP2, Mb⟩
             case measure => exact HM.out)
          | (refine ⟨?_, ?_⟩
             · (repeat apply Exists.intro)
               refine ⟨?_, rfl⟩
               exact ⟨_, _, HP2, Mb⟩
             · exact HM.out)
          | exact ⟨⟨_, _, HP2, Mb⟩, HM.out⟩
theorem Tw.tmpl {B : Nat} {w wr : World} {Y : Res} {s : Nat} {t : Ts} {x : MdE} {tl : List ThE} {l1 l2 : List MdE} (h : Has B w wr (TwX s t tl Y)) (e : t.ml = l1 ++ x :: l2) : ∃ A n c, x.v = .slice A n c := by
  have h1 := h.imp (fun F => Star.under fun F => Star.under fun F => Star.under fun F => Star.under fun F => all_out_of e)
  have h2 := h1.imp (fun F hh => Star.swap (Star.under (fun _ h => Star.swap (Star.under (fun _ h => Star.swap (Star.under (fun _ h => Star.swap h) h)) h)) hh))
  obtain ⟨F, h3, -⟩ := h2.own
  obtain ⟨F1, h4⟩ := star_fst h3
  exact h4
def RelW (s : Nat) (t : Ts) (a : Nat) (L : List Rg) (Y : Res) (B : Nat) (w : World) (n : Int) (e : Ending) (w' : World) : Prop := match efind MdE.k t.ml n with
  | none => e = .returned (.int .i64 170) ∧ Has B w w' (Tw s t (Star (Sp a L) Y))
  | some x => if x.x.st = true then e = .returned (.int .i64 172) ∧ Has B w w' (Tw s t (Star (Sp a L) Y)) else e = .returned (.int .i64 0) ∧ ∃ az, az.Perm (gath n t.tl) ∧ Has B w w' (Tw s { t with tl := t.tl.map (dropB n), ml := edel MdE.k t.ml n } (Star (Sp a (unmapsS L az)) Y))
set_option maxRecDepth 100000 in
set_option maxHeartbeats 4000000 in
theorem wrel_any {B : Nat} {w wr : World} {Y : Res} [hY : Fr Y] {s a : Nat} {t : Ts} {L : List Rg} (h : Has B w wr (Tw s t (Star (Sp a L) Y))) (hg : TsGood t) (n : Int) : Calls Tryz.prog 10 #[.pointer (some ⟨s, 0, none⟩), .pointer (some ⟨a, 0, none⟩), .int .i64 n] wr (RelW s t a L Y B w n) := by
  have M0 := Lib.hid h
  have HG := Lib.hid hg
  have s0 : wr.cell? ⟨s, 0, none⟩ = some (.map (some t.gm)) := M0.out.cellat s 0 rfl
  have hmg := mget_efind (ent := MdE.ent) (key := MdE.k) (fun _ => rfl) n t.ml
  clear h hg
  cases hf : efind MdE.k t.ml n with
  | none =>
    rw [hf] at hmg
    have hv : (mget (t.ml.map MdE.ent) n).getD (.agg #[.int .i64 0, .int .i64 0, .slice none 0 0, .bool false, .int .i64 0]) = .agg #[.int .i64 0, .int .i64 0, .slice none 0 0, .bool false, .int .i64 0] := by rw [hmg]; rfl
    have hb : (mget (t.ml.map MdE.ent) n).isSome = false := by rw [hmg]; rfl
    have HE : Hid (∀ w', Has B w w' (Tw s t (Star (Sp a L) Y)) → RelW s t a L Y B w n (.returned (.int .i64 170)) w') := Lib.hid (fun w' hh => by unfold RelW; rw [hf]; exact ⟨rfl, hh⟩)
    have Na := Lib.hid (M0.out.newcel 62 #[.int .i64 0, .int .i64 0, .slice none 0 0, .bool false, .int .i64 0])
    have Nb := Lib.hid ((Na.out.rowc wr.heap.size #[.int .i64 0, .int .i64 0, .slice none 0 0, .bool false, .int .i64 0]).norm (Tw s t (Star (Sp a L) Y)))
    clear hmg hf
    go_enter Tryz.func10, Tryz.ntmps10
    go_wp2_with (first | (refine wpList_mlookR rfl 52 3 62 _ _ rfl Tryz.underlying52 Tryz.underlying3 t.gm _ _ rfl n rfl (M0.out.getm t.gm) (.agg #[.int .i64 0, .int .i64 0, .slice none 0 0, .bool false, .int .i64 0]) z_mod (.agg #[.int .i64 0, .int .i64 0, .slice none 0 0, .bool false, .int .i64 0]) false hv hb ?_) | (refine wpList_store_row rfl 62 _ _ rfl wr.heap.size #[.int .i64 0, .int .i64 0, .slice none 0 0, .bool false, .int .i64 0] rfl rfl 62 #[.int .i64 0, .int .i64 0, .slice none 0 0, .bool false, .int .i64 0] (Na.out.getc wr.heap.size) (by kernel_rfl) rfl (by kernel_rfl) ?_))
    go_ret
    exact HE.out _ Nb.out
  | some x =>
    rw [hf] at hmg
    obtain ⟨m1, m2, hl, hdel, hkx, -⟩ := efind_split hf
    have hv : (mget (t.ml.map MdE.ent) n).getD (.agg #[.int .i64 0, .int .i64 0, .slice none 0 0, .bool false, .int .i64 0]) = .agg (mdA x.x x.v) := by rw [hmg]; rfl
    have hb : (mget (t.ml.map MdE.ent) n).isSome = true := by rw [hmg]; rfl
    obtain ⟨xA, xn, xc, hxv⟩ := Tw.tmpl M0.out hl
    have HXV := Lib.hid hxv
    clear hxv
    have Na := Lib.hid (M0.out.newcel 62 #[.int .i64 0, .int .i64 0, .slice none 0 0, .bool false, .int .i64 0])
    have Nb := Lib.hid (Na.out.rowc wr.heap.size (mdA x.x x.v))
    cases hst : x.x.st with
    | true =>
      have x3 : ((wr.alloc (.cells #[.int .i64 0, .int .i64 0, .slice none 0 0, .bool false, .int .i64 0] 62)).setRow wr.heap.size (mdA x.x x.v)).cell? ⟨wr.heap.size, 3, none⟩ = some (.bool true) := by rw [← hst]; exact Nb.out.cellat wr.heap.size 3 rfl
      have HE : Hid (∀ w', Has B w w' (Tw s t (Star (Sp a L) Y)) → RelW s t a L Y B w n (.returned (.int .i64 172)) w') := Lib.hid (fun w' hh => by unfold RelW; rw [hf]; dsimp only; rw [if_pos hst]; exact ⟨rfl, hh⟩)
      have Nc := Lib.hid (Nb.out.norm (Tw s t (Star (Sp a L) Y)))
      clear hmg hf hst hl hdel hkx
      go_enter Tryz.func10, Tryz.ntmps10
      go_wp2_with (first | (refine wpList_mlookR rfl 52 3 62 _ _ rfl Tryz.underlying52 Tryz.underlying3 t.gm _ _ rfl n rfl (M0.out.getm t.gm) (.agg #[.int .i64 0, .int .i64 0, .slice none 0 0, .bool false, .int .i64 0]) z_mod (.agg (mdA x.x x.v)) true hv hb ?_) | (refine wpList_store_row rfl 62 _ _ rfl wr.heap.size (mdA x.x x.v) rfl rfl 62 #[.int .i64 0, .int .i64 0, .slice none 0 0, .bool false, .int .i64 0] (Na.out.getc wr.heap.size) (by kernel_rfl) rfl (mdA_one HXV.out) ?_))
      go_ret
      exact HE.out _ Nc.out
    | false =>
      have HE : Hid (∀ w' az, az.Perm (gath n t.tl) → Has B w w' (Tw s { t with tl := t.tl.map (dropB n), ml := edel MdE.k t.ml n } (Star (Sp a (unmapsS L az)) Y)) → RelW s t a L Y B w n (.returned (.int .i64 0)) w') := Lib.hid (fun w' az hp hh => by unfold RelW; rw [hf]; dsimp only; rw [hst, if_neg (by decide)]; exact ⟨rfl, az, hp, hh⟩)
      have HST := Lib.hid hst
      have HL := Lib.hid hl
      have HDL := Lib.hid hdel
      have HMD := Lib.hid (mdel_edel (ent := MdE.ent) (key := MdE.k) (fun _ => rfl) n t.ml)
      clear hmg hf hst hl hdel hkx
      go_enter Tryz.func10, Tryz.ntmps10
      go_upto_region 2 with (first | (refine wpList_mlookR rfl 52 3 62 _ _ rfl Tryz.underlying52 Tryz.underlying3 t.gm _ _ rfl n rfl (M0.out.getm t.gm) (.agg #[.int .i64 0, .int .i64 0, .slice none 0 0, .bool false, .int .i64 0]) z_mod (.agg (mdA x.x x.v)) true hv hb ?_) | (refine wpList_store_row rfl 62 _ _ rfl wr.heap.size (mdA x.x x.v) rfl rfl 62 #[.int .i64 0, .int .i64 0, .slice none 0 0, .bool false, .int .i64 0] (Na.out.getc wr.heap.size) (by kernel_rfl) rfl (mdA_one HXV.out) ?_))
      obtain ⟨W1, hW⟩ : ∃ W1, (wr.alloc (.cells #[.int .i64 0, .int .i64 0, .slice none 0 0, .bool false, .int .i64 0] 62)).setRow wr.heap.size (mdA x.x x.v) = W1 := ⟨_, rfl⟩
      rw [hW] at Nb ⊢
      clear hW Na s0 M0
      generalize wr.heap.size = x7 at Nb ⊢
      have x73 : W1.cell? ⟨x7, 3, none⟩ = some (.bool false) := by rw [← HST.out]; exact Nb.out.cellat x7 3 rfl
      have s2 : W1.cell? ⟨s, 2, none⟩ = some (.map (some t.gt)) := Nb.out.cellat s 2 rfl
      have Ma := Lib.hid (Nb.out.newitr t.gt t.tc)
      go_upto_region 7 with (first | (refine wpList_mrange rfl 54 3 66 _ rfl Tryz.underlying54 t.gt (t.tl.map ThE.ent) t.tc rfl (Nb.out.getm t.gt) ?_))
      obtain ⟨W2, hW⟩ : ∃ W2, W1.alloc (.mapIter (some t.gt) t.tc #[] t.tc) = W2 := ⟨_, rfl⟩
      rw [hW] at Ma ⊢
      clear hW
      generalize W1.heap.size = it at Ma ⊢
      have M2 : Hid (Has B w W2 (Star (Itr it t.gt t.tc #[] t.tc) (TwX s t (relT n #[] t.tl) (Star (Sp a (unmapsS L (gath n []))) Y)))) := Lib.hid (by
        rw [relT_none]
        exact Ma.out.norm (Star (Itr it t.gt t.tc #[] t.tc) (Tw s t (Star (Sp a L) Y))))
      clear Ma Nb x73 s2
      simp only [Act.put, List.setIfInBounds_toArray, List.set_cons_succ, List.set_cons_zero]
      go_loopw [] (fun wr => ∃ (seen : Array Nat) (vis : List ThE), Hid ((vis ++ leftA ThE.b t.tl seen).Perm t.tl) ∧ Hid (Has B w wr (Star (Itr it t.gt t.tc seen t.tc) (TwX s t (relT n seen t.tl) (Star (Sp a (unmapsS L (gath n vis))) Y))))) (fun wr => (leftA ThE.b t.tl (wr.iterSeen it)).length)
      case atStart => exact ⟨#[], [], Lib.hid (by rw [leftA_none]; exact List.Perm.refl _), M2⟩
      case round =>
        clear M2
        obtain ⟨seen, vis, HPM, M8⟩ := hrel
        obtain ⟨w8, hw8⟩ : ∃ w8, w8 = wr := ⟨_, rfl⟩
        rw [← hw8] at M8 ⊢
        clear hw8
        rcases run_mnextA (P := Tryz.prog) (ent := ThE.ent) (key := ThE.k) (val := fun y => .agg (thA y.tp y.g)) (st := ThE.b) (fun _ => rfl) M8.out.itr (M8.out.getm t.gt) HG.out.gdt.past (Nat.le_refl _) with ⟨hD, hr⟩ | ⟨y, hy, w9, hr, hi9, hk9⟩
        · have HD := Lib.hid hD
          clear hD
          have sa : w8.cell? ⟨s, 0, none⟩ = some (.map (some t.gm)) := M8.out.cellat s 0 rfl
          have Mb := Lib.hid (M8.out.setm t.gm (mdel (t.ml.map MdE.ent) n) t.mc)
          have MZ : Hid (Has B w (World.putO w8 t.gm (.map ((mdel (t.ml.map MdE.ent) n).map entM).toArray t.mc)) (Tw s { t with tl := t.tl.map (dropB n), ml := edel MdE.k t.ml n } (Star (Sp a (unmapsS L (gath n vis))) Y))) := Lib.hid (by
            have h1 := Mb.out
            rw [relT_end HD.out] at h1
            have h2 := HMD.out
            rw [h2] at h1 ⊢
            have h3 := h1.norm (Star (All mdW t.ml) (Star (Cel s 56 t.arr) (Star (Mp t.gm ((edel MdE.k t.ml n).map MdE.ent) t.mc) (Star (Mp t.gg (t.gl.map GnE.ent) t.gc) (Star (Mp t.gt (t.tl.map ThE.ent) t.tc) (Star (All thR (t.tl.map (dropB n))) (Star (Sp a (unmapsS L (gath n vis))) Y)))))))
            have h4 := h3.imp (fun F => all_out_of HL.out)
            rw [← HDL.out] at h4
            have h5 : (t.tl.map (dropB n)).map ThE.ent = t.tl.map ThE.ent := by rw [List.map_map]; rfl
            show Has B w _ (Star (Cel s 56 t.arr) (Star (Mp t.gm ((edel MdE.k t.ml n).map MdE.ent) t.mc) (Star (Mp t.gg (t.gl.map GnE.ent) t.gc) (Star (Mp t.gt ((t.tl.map (dropB n)).map ThE.ent) t.tc) (Star (All mdW (edel MdE.k t.ml n)) (Star (All thR (t.tl.map (dropB n))) (Star (Sp a (unmapsS L (gath n vis))) Y)))))))
            rw [h5]
            exact h4.norm _)
          have HP2 : Hid ((gath n vis).Perm (gath n t.tl)) := Lib.hid (by
            have h1 := HPM.out
            rw [HD.out, List.append_nil] at h1
            exact h1.filterMap _)
          clear Mb
          go_wp2_with (first | (refine wpList_next0 rfl _ rfl it rfl hr ?_) | (refine wpList_mdel rfl 52 3 62 _ _ _ rfl Tryz.underlying52 Tryz.underlying3 t.gm _ t.mc rfl n rfl (M8.out.getm t.gm) ?_))
          go_ret
          exact HE.out _ _ HP2.out MZ.out
        · have hnd : (t.tl.map ThE.b).Nodup := by have := HG.out.gdt.born; rw [List.map_map] at this; exact this
          have M9 := Lib.hid (M8.out.stepitr hi9 hk9)
          have HLP := Lib.hid (leftA_push (st := ThE.b) hnd hy)
          obtain ⟨l1, l2, hr1, hr2⟩ := relT_step (n := n) hnd hy
          have HR2 := Lib.hid hr2
          have HSZ := Lib.hid M8.out.iseen
          have HYB := Lib.hid (List.mem_filter.1 hy).1
          have M9b := Lib.hid (M9.out.norm (TwX s t (relT n seen t.tl) (Star (Itr it t.gt t.tc (seen.push y.b) t.tc) (Star (Sp a (unmapsS L (gath n vis))) Y))))
          have M9c := Lib.hid (TwX.take M9b.out hr1)
          have Na := Lib.hid (M9c.out.newcel 66 #[.int .i64 0, .map none])
          have Nb := Lib.hid (Na.out.rowc w9.heap.size (thA y.tp y.g))
          have HPF : Hid (((vis ++ [y]) ++ leftA ThE.b t.tl (seen.push y.b)).Perm t.tl) := Lib.hid (by
            refine List.Perm.trans ?_ HPM.out
            rw [List.append_assoc]
            exact (HLP.out.symm.append_left vis))
          clear hy hnd hr1 hr2 M9b
          go_upto_region 9 with (first | (refine wpList_next0 rfl _ rfl it rfl hr ?_) | (refine wpList_mentryA (ent := ThE.ent) (key := ThE.k) (val := fun y => .agg (thA y.tp y.g)) (st := ThE.b) (fun _ => rfl) rfl _ rfl it t.gt t.tc t.tc seen t.tl y rfl M9.out.itr (M9.out.getm t.gt) HYB.out HG.out.gdt.born ?_) | (refine wpList_store_row rfl 66 _ _ rfl w9.heap.size (thA y.tp y.g) rfl rfl 66 #[.int .i64 0, .map none] (Na.out.getc w9.heap.size) (by kernel_rfl) rfl (by kernel_rfl) ?_))
          obtain ⟨W3, hW⟩ : ∃ W3, (w9.alloc (.cells #[.int .i64 0, .map none] 66)).setRow w9.heap.size (thA y.tp y.g) = W3 := ⟨_, rfl⟩
          rw [hW] at Nb ⊢
          clear hW Na hr M9 M9c
          generalize w9.heap.size = x10 at Nb ⊢
          have y1 : W3.cell? ⟨x10, 1, none⟩ = some (.map (some y.g)) := Nb.out.cellat x10 1 rfl
          have hmg := mget_efind (ent := BkE.ent) (key := BkE.k) (fun _ => rfl) n y.bl
          have Oa := Lib.hid (Nb.out.newcel 69 #[.int .i64 0, .int .i64 0, .int .i64 0, .int .i64 0])
          have GIVE : Hid (∀ (wa : World) (vs : List ThE) (ys : ThE), ys = dropB n y → Has B w wa (Star (Mp ys.g (ys.bl.map BkE.ent) ys.c) (TwX s t (l1 ++ l2) (Star (Itr it t.gt t.tc (seen.push y.b) t.tc) (Star (Sp a (unmapsS L (gath n vs))) Y)))) → Has B w wa (Star (Itr it t.gt t.tc (seen.push y.b) t.tc) (TwX s t (relT n (seen.push y.b) t.tl) (Star (Sp a (unmapsS L (gath n vs))) Y)))) := Lib.hid (by
            intro wa vs ys he hh
            subst he
            have h1 := Tw.give hh
            rw [← HR2.out] at h1
            exact h1.norm _)
          have HMS : Hid (∀ (wa : World) (vs : List ThE), Has B w wa (Star (Itr it t.gt t.tc (seen.push y.b) t.tc) (TwX s t (relT n (seen.push y.b) t.tl) (Star (Sp a (unmapsS L (gath n vs))) Y))) → (leftA ThE.b t.tl (wa.iterSeen it)).length < (leftA ThE.b t.tl (w8.iterSeen it)).length) := Lib.hid (by
            intro wa vs hh
            rw [hh.iseen, HSZ.out]
            have := HLP.out.length_eq
            simp only [List.length_cons] at this
            omega)
          cases hf2 : efind BkE.k y.bl n with
          | none =>
            rw [hf2] at hmg
            have hv2 : (mget (y.bl.map BkE.ent) n).getD (.agg #[.int .i64 0, .int .i64 0, .int .i64 0, .int .i64 0]) = .agg #[.int .i64 0, .int .i64 0, .int .i64 0, .int .i64 0] := by rw [hmg]; rfl
            have hb2 : (mget (y.bl.map BkE.ent) n).isSome = false := by rw [hmg]; rfl
            have Ob := Lib.hid (Oa.out.rowc W3.heap.size #[.int .i64 0, .int .i64 0, .int .i64 0, .int .i64 0])
            have Mb := Lib.hid (GIVE.out _ (vis ++ [y]) y (dropB_no hf2).symm (by rw [gath_no hf2]; exact Ob.out.norm _))
            have HM := Lib.hid (HMS.out _ (vis ++ [y]) Mb.out)
            clear hmg hf2
            go_wp2_with (first | (refine wpList_mlookR rfl 64 3 69 _ _ rfl Tryz.underlying64 Tryz.underlying3 y.g _ _ rfl n rfl (Nb.out.getm y.g) (.agg #[.int .i64 0, .int .i64 0, .int .i64 0, .int .i64 0]) z_blk (.agg #[.int .i64 0, .int .i64 0, .int .i64 0, .int .i64 0]) false hv2 hb2 ?_) | (refine wpList_store_row rfl 69 _ _ rfl W3.heap.size #[.int .i64 0, .int .i64 0, .int .i64 0, .int .i64 0] rfl rfl 69 #[.int .i64 0, .int .i64 0, .int .i64 0, .int .i64 0] (Oa.out.getc W3.heap.size) (by kernel_rfl) rfl (by kernel_rfl) ?_))
            first
              | (go_roundw
                 case rel => exact ⟨_, _, HPF, Mb⟩
                 case measure => exact HM.out)
              | (refine ⟨?_, ?_⟩
                 · (repeat apply Exists.intro)
                   refine ⟨?_, rfl⟩
                   exact ⟨_, _, HPF, Mb⟩
                 · exact HM.out)
              | exact ⟨⟨_, _, HPF, Mb⟩, HM.out⟩
          | some b =>
            rw [hf2] at hmg
            have hv2 : (mget (y.bl.map BkE.ent) n).getD (.agg #[.int .i64 0, .int .i64 0, .int .i64 0, .int .i64 0]) = .agg (bkA b.x) := by rw [hmg]; rfl
            have hb2 : (mget (y.bl.map BkE.ent) n).isSome = true := by rw [hmg]; rfl
            have Ob := Lib.hid (Oa.out.rowc W3.heap.size (bkA b.x))
            have HGA := Lib.hid (gath_so (vis := vis) hf2)
            have HMD2 := Lib.hid (mdel_edel (ent := BkE.ent) (key := BkE.k) (fun _ => rfl) n y.bl)
            clear hmg hf2
            go_upto_region 11 with (first | (refine wpList_mlookR rfl 64 3 69 _ _ rfl Tryz.underlying64 Tryz.underlying3 y.g _ _ rfl n rfl (Nb.out.getm y.g) (.agg #[.int .i64 0, .int .i64 0, .int .i64 0, .int .i64 0]) z_blk (.agg (bkA b.x)) true hv2 hb2 ?_) | (refine wpList_store_row rfl 69 _ _ rfl W3.heap.size (bkA b.x) rfl rfl 69 #[.int .i64 0, .int .i64 0, .int .i64 0, .int .i64 0] (Oa.out.getc W3.heap.size) (by kernel_rfl) rfl (by kernel_rfl) ?_))
            obtain ⟨W4, hW⟩ : ∃ W4, (W3.alloc (.cells #[.int .i64 0, .int .i64 0, .int .i64 0, .int .i64 0] 69)).setRow W3.heap.size (bkA b.x) = W4 := ⟨_, rfl⟩
            rw [hW] at Ob ⊢
            clear hW Oa Nb y1
            generalize W3.heap.size = x11 at Ob ⊢
            have y2 : W4.cell? ⟨x11, 2, none⟩ = some (.int .i64 b.x.at_) := Ob.out.cellat x11 2 rfl
            have C2 := Lib.hid (own_unmap (Ob.out.pick (Sp a (unmapsS L (gath n vis)))) b.x.at_)
            go_wp2_with fail
            refine (C2.out).mono ?_
            rintro e wa ⟨rfl, m⟩
            have Ma := Lib.hid (m.norm (Star (Cel x10 66 (thA y.tp y.g)) (Star (Mp y.g (y.bl.map BkE.ent) y.c) (TwX s t (l1 ++ l2) (Star (Itr it t.gt t.tc (seen.push y.b) t.tc) (Star (Sp a (unmapS (unmapsS L (gath n vis)) b.x.at_).1) Y))))))
            have y3 : wa.cell? ⟨x10, 1, none⟩ = some (.map (some y.g)) := Ma.out.cellat x10 1 rfl
            have Mc := Lib.hid (Ma.out.setm y.g (mdel (y.bl.map BkE.ent) n) y.c)
            have Mb := Lib.hid (GIVE.out (World.putO wa y.g (.map ((mdel (y.bl.map BkE.ent) n).map entM).toArray y.c)) (vis ++ [y]) (dropB n y) rfl (by
              rw [HGA.out, unmapsS_snoc]
              have h1 := Mc.out
              have h9 := HMD2.out
              rw [h9] at h1 ⊢
              exact h1.norm (Star (Mp y.g ((edel BkE.k y.bl n).map BkE.ent) y.c) (TwX s t (l1 ++ l2) (Star (Itr it t.gt t.tc (seen.push y.b) t.tc) (Star (Sp a (unmapS (unmapsS L (gath n vis)) b.x.at_).1) Y))))))
            have HM := Lib.hid (HMS.out _ (vis ++ [y]) Mb.out)
            clear m C2 y2 Ob Mc
            go_wp2_with (first | (refine wpList_mdel rfl 64 3 69 _ _ _ rfl Tryz.underlying64 Tryz.underlying3 y.g _ y.c rfl n rfl (Ma.out.getm y.g) ?_))
            first
              | (go_roundw
                 case rel => exact ⟨_, _, HPF, Mb⟩
                 case measure => exact HM.out)
              | (refine ⟨?_, ?_⟩
                 · (repeat apply Exists.intro)
                   refine ⟨?_, rfl⟩
                   exact ⟨_, _, HPF, Mb⟩
                 · exact HM.out)
              | exact ⟨⟨_, _, HPF, Mb⟩, HM.out⟩
theorem ExitW.plain {s a : Nat} {t : Ts} {L : List Rg} {Y : Res} {B : Nat} {w w' : World} {e : Ending} {id : Int} (h : ExitW s t a L Y B w id e w') : ∃ n t' L', ExitP t L id n t' L' ∧ e = .returned (.int .i64 n) ∧ Has B w w' (Tw s t' (Star (Sp a L') Y)) := by
  unfold ExitW at h
  unfold ExitP
  cases hf : efind ThE.k t.tl id with
  | none => rw [hf] at h; exact ⟨171, t, L, ⟨rfl, rfl, rfl⟩, h.1, h.2⟩
  | some x =>
    rw [hf] at h
    obtain ⟨h1, az, h2, h3⟩ := h
    exact ⟨0, _, _, ⟨rfl, rfl, az, h2, rfl⟩, h1, h3⟩
theorem RelW.plain {s a : Nat} {t : Ts} {L : List Rg} {Y : Res} {B : Nat} {w w' : World} {e : Ending} {n : Int} (h : RelW s t a L Y B w n e w') : ∃ r t' L', RelP t L n r t' L' ∧ e = .returned (.int .i64 r) ∧ Has B w w' (Tw s t' (Star (Sp a L') Y)) := by
  unfold RelW at h
  unfold RelP
  cases hf : efind MdE.k t.ml n with
  | none => rw [hf] at h; exact ⟨170, t, L, ⟨rfl, rfl, rfl⟩, h.1, h.2⟩
  | some x =>
    rw [hf] at h
    dsimp only at h ⊢
    by_cases hs : x.x.st = true
    · rw [if_pos hs] at h
      exact ⟨172, t, L, by rw [if_pos hs]; exact ⟨rfl, rfl, rfl⟩, h.1, h.2⟩
    · rw [if_neg hs] at h
      obtain ⟨h1, az, h2, h3⟩ := h
      exact ⟨0, _, _, by rw [if_neg hs]; exact ⟨rfl, rfl, az, h2, rfl⟩, h1, h3⟩
end Go.Proofs.YtpenejigebkkmaaGreat

namespace Go.Proofs.YtpenejigebkkmaaGreat
open Go.RowKit Spm
set_option linter.unusedVariables false
set_option linter.unusedSimpArgs false

attribute [local irreducible] wpList
open Go.Lib hiding intOf
def RegW (s : Nat) (t : Ts) (Y : Res) (B : Nat) (w : World) (tm : List UInt8) (size : Int) (st : Bool) (e : Ending) (w' : World) : Prop :=
  if size < 1 ∨ 4096 < size ∨ size < tm.length then e = .returned (.tuple #[.int .i64 0, .int .i64 1]) ∧ Has B w w' (Tw s t Y)
  else if st = true ∧ t.sd = true then e = .returned (.tuple #[.int .i64 0, .int .i64 172]) ∧ Has B w w' (Tw s t Y)
  else ∃ n, FreeN t.ml n ∧ (if 64 < n then e = .returned (.tuple #[.int .i64 0, .int .i64 3]) ∧ Has B w w' (Tw s t Y)
    else if st = true ∧ wrap64 (4096 - t.ar) < upT size then e = .returned (.tuple #[.int .i64 0, .int .i64 3]) ∧ Has B w w' (Tw s (gsetT (gsetT t n (wrap64 (gget t.gl n + 1))) n (wrap64 (wrap64 (gget t.gl n + 1) - 1))) Y)
    else e = .returned (.tuple #[.int .i64 n, .int .i64 0]) ∧ ∃ v, Has B w w' (Tw s (regT t n tm size st v) Y))
set_option maxRecDepth 100000 in
set_option maxHeartbeats 4000000 in
theorem wreg_any {B : Nat} {w wr : World} {Y : Res} [hY : Fr Y] {s : Nat} {t : Ts} (h : Has B w wr (Tw s t Y)) (hmk : MdsKey t.ml) {A : Option Addr} {c : Nat} {tm : List UInt8} (hsrc : SrcB wr A tm) (hne : tm ≠ [] → ∀ p, A = some p → p.block ≠ t.gg) (size : Int) (st : Bool) (hst0 : Hid (st = false)) : Calls Tryz.prog 9 #[.pointer (some ⟨s, 0, none⟩), .slice A tm.length c, .int .i64 size, .bool st] wr (RegW s t Y B w tm size st) := by
  have M0 := Lib.hid h
  have HMK := Lib.hid hmk
  have HSR := Lib.hid hsrc
  have HNE := Lib.hid hne
  have s3 : wr.cell? ⟨s, 3, none⟩ = some (.bool t.sd) := M0.out.cellat s 3 rfl
  clear h hmk hsrc hne
  obtain ⟨k, hk⟩ : ∃ k, tm.length = k := ⟨_, rfl⟩
  have HK := Lib.hid hk
  rw [hk]
  clear hk
  by_cases h1 : size < 1
  · have HE : Hid (RegW s t Y B w tm size st (.returned (.tuple #[.int .i64 0, .int .i64 1])) wr) := Lib.hid (by unfold RegW; rw [if_pos (.inl h1)]; exact ⟨rfl, M0.out⟩)
    go_enter Tryz.func9, Tryz.ntmps9
    go_wp2_with fail
    go_ret2
    exact HE.out
  by_cases h2 : 4096 < size
  · have HE : Hid (RegW s t Y B w tm size st (.returned (.tuple #[.int .i64 0, .int .i64 1])) wr) := Lib.hid (by unfold RegW; rw [if_pos (.inr (.inl h2))]; exact ⟨rfl, M0.out⟩)
    go_enter Tryz.func9, Tryz.ntmps9
    go_wp2_with fail
    go_ret2
    exact HE.out
  by_cases h3 : size < k
  · have HE : Hid (RegW s t Y B w tm size st (.returned (.tuple #[.int .i64 0, .int .i64 1])) wr) := Lib.hid (by unfold RegW; rw [if_pos (.inr (.inr (by rw [HK.out]; exact h3)))]; exact ⟨rfl, M0.out⟩)
    go_enter Tryz.func9, Tryz.ntmps9
    go_wp2_with fail
    go_ret2
    exact HE.out
  have HBAD : Hid (¬ (size < 1 ∨ 4096 < size ∨ size < tm.length)) := Lib.hid (by rw [HK.out]; omega)
  by_cases h4 : st = true ∧ t.sd = true
  · have HE : Hid (RegW s t Y B w tm size st (.returned (.tuple #[.int .i64 0, .int .i64 172])) wr) := Lib.hid (by unfold RegW; rw [if_neg HBAD.out, if_pos h4]; exact ⟨rfl, M0.out⟩)
    obtain ⟨e1, e2⟩ := h4
    rw [e2] at s3
    subst e1
    go_enter Tryz.func9, Tryz.ntmps9
    go_wp2_with fail
    go_ret2
    exact HE.out
  have HN4 := Lib.hid h4
  cases st with
  | false =>
    clear hst0
    skip
    clear s3
    have HHE : Hid (∀ e w', (∃ n, FreeN t.ml n ∧ (if 64 < n then e = .returned (.tuple #[.int .i64 0, .int .i64 3]) ∧ Has B w w' (Tw s t Y)
        else if false = true ∧ wrap64 (4096 - t.ar) < upT size then e = .returned (.tuple #[.int .i64 0, .int .i64 3]) ∧ Has B w w' (Tw s (gsetT (gsetT t n (wrap64 (gget t.gl n + 1))) n (wrap64 (wrap64 (gget t.gl n + 1) - 1))) Y)
        else e = .returned (.tuple #[.int .i64 n, .int .i64 0]) ∧ ∃ v, Has B w w' (Tw s (regT t n tm size false v) Y))) → RegW s t Y B w tm size false e w') := Lib.hid (fun e w' hh => by unfold RegW; rw [if_neg HBAD.out, if_neg HN4.out]; exact hh)
    clear h4
    go_enter Tryz.func9, Tryz.ntmps9
    go_upto_region 6 with fail
    go_loopw [10] (fun i wr => ∃ n : Int, i = .int .i64 n ∧ 1 ≤ n ∧ n ≤ 65 ∧ Hid (∀ k, 1 ≤ k → k < n → 0 < mszS t.ml k) ∧ Hid (Has B w wr (Tw s t Y)) ∧ Hid (SrcB wr A tm)) (fun i _ => (65 - intOf i).toNat)
    case atStart => exact ⟨1, rfl, by omega, by omega, Lib.hid (fun k h1 h2 => by omega), M0, HSR⟩
    case round =>
      clear M0 HSR
      obtain ⟨n, rfl, hn1, hn2, HB4, M8, HSR⟩ := hrel
      obtain ⟨w8, hw8⟩ : ∃ w8, w8 = wr := ⟨_, rfl⟩
      rw [← hw8] at M8 HSR ⊢
      clear hw8
      have s0 : w8.cell? ⟨s, 0, none⟩ = some (.map (some t.gm)) := M8.out.cellat s 0 rfl
      have hmz := mdz_sz t.ml n
      cases hf : efind MdE.k t.ml n with
      | some y =>
        rw [hf] at hmz
        have hpos : 0 < y.x.size := by have := (HMK.out y (efind_mem hf).1).2; omega
        have hn3 : n ≤ 64 := by have := (HMK.out y (efind_mem hf).1).1; have := (efind_mem hf).2; omega
        have HB5 : Hid (∀ k, 1 ≤ k → k < n + 1 → 0 < mszS t.ml k) := Lib.hid (fun k h1 h2 => by
          by_cases hkn : k = n
          · subst hkn; unfold mszS; rw [hf]; exact hpos
          · exact HB4.out k h1 (by omega))
        have hw1 : IntKind.i64.wrap (n + 1) = n + 1 := by rw [IntKind.wrap_i64]; omega
        clear hf
        go_wp2_with (first | (refine wpList_mlookV rfl 52 3 62 _ _ rfl Tryz.underlying52 Tryz.underlying3 t.gm _ _ rfl n rfl (M8.out.getm t.gm) (.agg #[.int .i64 0, .int .i64 0, .slice none 0 0, .bool false, .int .i64 0]) z_mod (.agg (mdA y.x y.v)) hmz ?_) | (refine wpList_fieldK rfl 62 _ 1 rfl (.agg (mdA y.x y.v)) (.int .i64 y.x.size) rfl (z_fd1 _ _ _) ?_))
        first
          | (go_round
             case rel => exact ⟨n + 1, by first | rfl | (congr 1; unfold wrap64; omega), by omega, by omega, HB5, M8, HSR⟩
             case measure => simp [intOf]; omega)
          | (refine ⟨⟨n + 1, by first | rfl | (congr 1; unfold wrap64; omega), by omega, by omega, HB5, M8, HSR⟩, ?_⟩
             simp [intOf]; omega)
      | none =>
        rw [hf] at hmz
        have HFR : Hid (FreeN t.ml n) := Lib.hid ⟨hn1, hn2, HB4.out, by unfold mszS; rw [hf]; decide⟩
        have HFN := Lib.hid hf
        clear hf
        by_cases h64 : 64 < n
        · have HE : Hid (RegW s t Y B w tm size false (.returned (.tuple #[.int .i64 0, .int .i64 3])) w8) := Lib.hid (HHE.out _ _ ⟨n, HFR.out, by rw [if_pos h64]; exact ⟨rfl, M8.out⟩⟩)
          go_wp2_with (first | (refine wpList_mlookV rfl 52 3 62 _ _ rfl Tryz.underlying52 Tryz.underlying3 t.gm _ _ rfl n rfl (M8.out.getm t.gm) (.agg #[.int .i64 0, .int .i64 0, .slice none 0 0, .bool false, .int .i64 0]) z_mod (.agg #[.int .i64 0, .int .i64 0, .slice none 0 0, .bool false, .int .i64 0]) hmz ?_) | (refine wpList_fieldK rfl 62 _ 1 rfl (.agg #[.int .i64 0, .int .i64 0, .slice none 0 0, .bool false, .int .i64 0]) (.int .i64 0) rfl (z_fd0 _) ?_))
          go_ret2
          exact HE.out
        have s1 : w8.cell? ⟨s, 1, none⟩ = some (.map (some t.gg)) := M8.out.cellat s 1 rfl
        have Ma := Lib.hid (M8.out.setm t.gg (mset (t.gl.map GnE.ent) n (.int .i64 (wrap64 (gget t.gl n + 1))) t.gc) (mclk (t.gl.map GnE.ent) n t.gc))
        have M1 : Hid (Has B w (World.putO w8 t.gg (.map ((mset (t.gl.map GnE.ent) n (.int .i64 (wrap64 (gget t.gl n + 1))) t.gc).map entM).toArray (mclk (t.gl.map GnE.ent) n t.gc))) (Star (Cel s 56 t.arr) (Star (Mp t.gm (t.ml.map MdE.ent) t.mc) (Star (Mp t.gg ((gsetL t n (wrap64 (gget t.gl n + 1))).map GnE.ent) (mclk (t.gl.map GnE.ent) n t.gc)) (Star (Mp t.gt (t.tl.map ThE.ent) t.tc) (Star (All mdW t.ml) (Star (All thR t.tl) Y))))))) := Lib.hid (by
          have h1 := Ma.out
          have e1 := gsetL_m t n (wrap64 (gget t.gl n + 1))
          rw [e1] at h1 ⊢
          exact h1)
        clear Ma
        go_upto_region 11 with (first | (refine wpList_mlookV rfl 52 3 62 _ _ rfl Tryz.underlying52 Tryz.underlying3 t.gm _ _ rfl n rfl (M8.out.getm t.gm) (.agg #[.int .i64 0, .int .i64 0, .slice none 0 0, .bool false, .int .i64 0]) z_mod (.agg #[.int .i64 0, .int .i64 0, .slice none 0 0, .bool false, .int .i64 0]) hmz ?_) | (refine wpList_fieldK rfl 62 _ 1 rfl (.agg #[.int .i64 0, .int .i64 0, .slice none 0 0, .bool false, .int .i64 0]) (.int .i64 0) rfl (z_fd0 _) ?_) | (refine wpList_mlookV rfl 53 3 3 _ _ rfl Tryz.underlying53 Tryz.underlying3 t.gg _ _ rfl n rfl (M8.out.getm t.gg) (.int .i64 0) z_int (.int .i64 (gget t.gl n)) (gget_m t.gl n) ?_) | (refine wpList_mset rfl 53 3 3 _ _ _ rfl Tryz.underlying53 Tryz.underlying3 t.gg _ t.gc rfl n rfl (.int .i64 (wrap64 (gget t.gl n + 1))) rfl (M8.out.getm t.gg) ?_))
        obtain ⟨W1, hW⟩ : ∃ W1, (World.putO w8 t.gg (.map ((mset (t.gl.map GnE.ent) n (.int .i64 (wrap64 (gget t.gl n + 1))) t.gc).map entM).toArray (mclk (t.gl.map GnE.ent) n t.gc))) = W1 := ⟨_, rfl⟩
        have HSR1 : Hid (SrcB W1 A tm) := Lib.hid (by
          rw [← hW]
          intro hne
          obtain ⟨bb, off, hA, hc⟩ := HSR.out hne
          exact ⟨bb, off, hA, fun j x hj => by
            have h9 := HNE.out hne _ hA
            have h8 := hc j x hj
            rw [← h8]
            exact World.cell?_of_block (putO_other (fun e => h9 e))⟩)
        rw [hW] at M1 ⊢
        clear hW s0 s1 hmz M8 HSR
        have SS : Hid ((fun X : World => Blk X s 56 t.arr ∧ X.heap[t.gg]? = some (.map (((gsetL t n (wrap64 (gget t.gl n + 1))).map GnE.ent).map entM).toArray (mclk (t.gl.map GnE.ent) n t.gc))) W1.drew) := Lib.hid ⟨M1.out.getc s, M1.out.getm t.gg⟩
        have HC1 : Hid (∀ X : World, Blk X s 56 t.arr → X.cell? ⟨s, 1, none⟩ = some (.map (some t.gg))) := Lib.hid (fun X h => by rw [h.cell]; rfl)
        have HGV : Hid ((mget ((gsetL t n (wrap64 (gget t.gl n + 1))).map GnE.ent) n).getD (.int .i64 0) = .int .i64 (wrap64 (gget t.gl n + 1))) := Lib.hid (by rw [gget_m, gget_gset, if_pos rfl])
        obtain ⟨g1, hg1⟩ : ∃ g1, wrap64 (gget t.gl n + 1) = g1 := ⟨_, rfl⟩
        rw [hg1] at M1 SS HGV ⊢
        have HG1 := Lib.hid hg1
        clear hg1
        refine wp_region_noPanic ?_
        refine wp_region_held_drew (S := fun X : World => Blk X s 56 t.arr ∧ X.heap[t.gg]? = some (.map (((gsetL t n g1).map GnE.ent).map entM).toArray (mclk (t.gl.map GnE.ent) n t.gc))) (by kernel_rfl) SS.out ?_
        clear SS
        intro hS
        refine takeR (i := 0) (v := .pointer (some ⟨s, 0, none⟩)) 50 rfl (by kernel_rfl) (by kernel_rfl) (by kernel_rfl) (by kernel_rfl) (fun _ _ _ h => h) (yields_pure (by kernel_rfl) (fun w => by kernel_rfl)) hS ?_
        refine takeR (i := 1) (v := .pointer (some ⟨s, 0, none⟩)) 51 rfl (by kernel_rfl) (by kernel_rfl) (by kernel_rfl) (by kernel_rfl) (fun _ _ _ h => h) (yields_pure (by kernel_rfl) (fun w => by kernel_rfl)) hS ?_
        refine takeR (i := 2) (v := .pointer (some ⟨s, 1, none⟩)) 52 rfl (by kernel_rfl) (by kernel_rfl) (by kernel_rfl) (by kernel_rfl) (fun _ _ _ h => h) (yields_pure (by kernel_rfl) (fun w => by kernel_rfl)) hS ?_
        refine takeR (i := 3) 53 rfl (by kernel_rfl) (by kernel_rfl) (by kernel_rfl) (by kernel_rfl) (fun _ _ _ h => h) (yields_load_cell (by kernel_rfl) 53 _ rfl s 1 (by kernel_rfl) (.map (some t.gg)) (fun X h => HC1.out X h.1) _ Tryz.underlying53 rfl) hS ?_
        refine takeR (i := 4) (v := .int .i64 n) 54 rfl (by kernel_rfl) (by kernel_rfl) (by kernel_rfl) (by kernel_rfl) (fun _ _ _ h => h) (yields_pure (by kernel_rfl) (fun w => by kernel_rfl)) hS ?_
        refine takeR (i := 5) 55 rfl (by kernel_rfl) (by kernel_rfl) (by kernel_rfl) (by kernel_rfl) (fun _ _ _ h => h) (yields_mlook1 (by kernel_rfl) 53 3 3 _ _ rfl Tryz.underlying53 Tryz.underlying3 t.gg ((gsetL t n g1).map GnE.ent) _ (by kernel_rfl) n (by kernel_rfl) (.int .i64 0) (.int .i64 g1) z_int HGV.out (fun X h => h.2)) hS ?_
        refine takeR (i := 6) (v := .int .i64 size) 56 rfl (by kernel_rfl) (by kernel_rfl) (by kernel_rfl) (by kernel_rfl) (fun _ _ _ h => h) (yields_pure (by kernel_rfl) (fun w => by kernel_rfl)) hS ?_
        refine takeR (i := 7) (v := .slice A k c) 57 rfl (by kernel_rfl) (by kernel_rfl) (by kernel_rfl) (by kernel_rfl) (fun _ _ _ h => h) (yields_pure (by kernel_rfl) (fun w => by kernel_rfl)) hS ?_
        refine takeR (i := 9) (v := .bool false) 59 rfl (by kernel_rfl) (by kernel_rfl) (by kernel_rfl) (by kernel_rfl) (fun _ _ _ h => h) (yields_pure (by kernel_rfl) (fun w => by kernel_rfl)) hS ?_
        have M1d := Lib.hid (M1.out.stay ((Below.refl _ W1).drew))
        have SC : Hid (∀ X : World, Has B w X (Star (Cel s 56 t.arr) (Star (Mp t.gm (t.ml.map MdE.ent) t.mc) (Star (Mp t.gg ((gsetL t n g1).map GnE.ent) (mclk (t.gl.map GnE.ent) n t.gc)) (Star (Mp t.gt (t.tl.map ThE.ent) t.tc) (Star (All mdW t.ml) (Star (All thR t.tl) Y)))))) → Blk X s 56 t.arr ∧ X.heap[t.gg]? = some (.map (((gsetL t n g1).map GnE.ent).map entM).toArray (mclk (t.gl.map GnE.ent) n t.gc))) := Lib.hid (fun X hh => ⟨hh.getc s, hh.getm t.gg⟩)
        have HFULL : Hid (¬ (false = true ∧ wrap64 (4096 - t.ar) < upT size)) := Lib.hid (fun hh => absurd hh.1 (by decide))
        refine wpAnyH_all (rs := [8, 11]) (by kernel_rfl) (by simp) ?_
        intro j hj
        obtain rfl | rfl : j = 8 ∨ j = 11 := by simpa using hj
        focus
          have hsr : SrcB W1.drew A tm := HSR1.out
          have C1 := clone_src (c := c) hsr (by rw [HK.out]; omega)
          rw [HK.out] at C1
          refine opR_call 58 rfl rfl (by kernel_rfl) _ _ _ rfl _ (by kernel_rfl) (C1.mono ?_)
          rintro e X1 ⟨v1, rfl, hb1, hbel⟩
          obtain ⟨uA, uc, hu, -, -⟩ := hb1.src
          rw [HK.out] at hu
          subst hu
          have Ne := Lib.hid (M1d.out.bytes hb1 hbel)
          refine ⟨_, rfl, SC.out _ Ne.out.right, ?_⟩
          clear hS
          have hS := SC.out _ Ne.out.right
          clear hb1 hbel hsr C1
          refine takeR (i := 10) (v := .agg #[.int .i64 g1, .int .i64 size, (.slice uA k uc), .bool false, .int .i64 (0)]) 60 rfl (by kernel_rfl) (by kernel_rfl) (by kernel_rfl) (by kernel_rfl) (fun _ _ _ h => h) (yields_pure (by kernel_rfl) (fun w => by kernel_rfl)) hS ?_
          have Nf := Lib.hid (Ne.out.newcel 62 #[.int .i64 0, .int .i64 0, .slice none 0 0, .bool false, .int .i64 0])
          refine wpAnyH_all (rs := [11]) (by kernel_rfl) (by simp) ?_
          intro j hj
          obtain rfl : j = 11 := by simpa using hj
          refine opR_run (v := .pointer (some ⟨X1.heap.size, 0, none⟩)) (w' := X1.alloc (.cells #[.int .i64 0, .int .i64 0, .slice none 0 0, .bool false, .int .i64 0] 62)) 11 rfl (by kernel_rfl) (by kernel_rfl) (by kernel_rfl) ?_
          refine ⟨SC.out _ Nf.out.right.right, ?_⟩
          have Ng := Lib.hid (Nf.out.rowc X1.heap.size #[.int .i64 g1, .int .i64 size, (.slice uA k uc), .bool false, .int .i64 (0)])
          refine wpAnyH_all (rs := [12]) (by kernel_rfl) (by simp) ?_
          intro j hj
          obtain rfl : j = 12 := by simpa using hj
          refine opR_store rfl (by kernel_rfl) (by kernel_rfl) 62 _ _ rfl X1.heap.size #[.int .i64 g1, .int .i64 size, (.slice uA k uc), .bool false, .int .i64 (0)] (by kernel_rfl) (by kernel_rfl) 62 #[.int .i64 0, .int .i64 0, .slice none 0 0, .bool false, .int .i64 0] (Nf.out.getc _) (by kernel_rfl) rfl (by kernel_rfl) ?_
          refine ⟨SC.out _ Ng.out.right.right, ?_⟩
          refine wpAnyH_done (by kernel_rfl) ?_ _
          refine NoPanic.normal ?_
          simp only [Act.put, List.setIfInBounds_toArray, List.set_cons_succ, List.set_cons_zero]
          obtain ⟨W2, hW⟩ : ∃ W2, (X1.alloc (.cells #[.int .i64 0, .int .i64 0, .slice none 0 0, .bool false, .int .i64 0] 62)).setRow X1.heap.size #[.int .i64 g1, .int .i64 size, (.slice uA k uc), .bool false, .int .i64 (0)] = W2 := ⟨_, rfl⟩
          rw [hW] at Ng ⊢
          have Nn := Ng
          clear hW Ng Nf Ne hS SC M1d
          generalize X1.heap.size = x11 at Nn ⊢
          go_upto_region 18 with fail
          have Nu := Lib.hid (Nn.out.stay ((Below.refl _ W2).drew))
          have Nv := Lib.hid (Nu.out.setm t.gm (mset (t.ml.map MdE.ent) n (.agg #[.int .i64 g1, .int .i64 size, (.slice uA k uc), .bool false, .int .i64 (0)]) t.mc) (mclk (t.ml.map MdE.ent) n t.mc))
          have HC0 : Hid (∀ X : World, Blk X s 56 t.arr → X.cell? ⟨s, 0, none⟩ = some (.map (some t.gm))) := Lib.hid (fun X h => by rw [h.cell]; rfl)
          have hS0 : (fun X : World => Blk X s 56 t.arr ∧ Blk X x11 62 #[.int .i64 g1, .int .i64 size, (.slice uA k uc), .bool false, .int .i64 (0)]) W2.drew := ⟨Nu.out.getc s, Nu.out.getc x11⟩
          refine wp_region_noPanic ?_
          refine wp_region_held_drew (S := (fun X : World => Blk X s 56 t.arr ∧ Blk X x11 62 #[.int .i64 g1, .int .i64 size, (.slice uA k uc), .bool false, .int .i64 (0)])) (by kernel_rfl) hS0 ?_
          clear hS0
          intro hS
          refine takeR (i := 0) (v := .pointer (some ⟨s, 0, none⟩)) 91 rfl (by kernel_rfl) (by kernel_rfl) (by kernel_rfl) (by kernel_rfl) (fun _ _ _ h => h) (yields_pure (by kernel_rfl) (fun w => by kernel_rfl)) hS ?_
          refine takeR (i := 1) (v := .pointer (some ⟨s, 0, none⟩)) 92 rfl (by kernel_rfl) (by kernel_rfl) (by kernel_rfl) (by kernel_rfl) (fun _ _ _ h => h) (yields_pure (by kernel_rfl) (fun w => by kernel_rfl)) hS ?_
          refine takeR (i := 2) (v := .pointer (some ⟨s, 0, none⟩)) 93 rfl (by kernel_rfl) (by kernel_rfl) (by kernel_rfl) (by kernel_rfl) (fun _ _ _ h => h) (yields_pure (by kernel_rfl) (fun w => by kernel_rfl)) hS ?_
          refine takeR (i := 3) 94 rfl (by kernel_rfl) (by kernel_rfl) (by kernel_rfl) (by kernel_rfl) (fun _ _ _ h => h) (yields_load_cell (by kernel_rfl) 52 _ rfl s 0 (by kernel_rfl) (.map (some t.gm)) (fun X h => HC0.out X h.1) _ Tryz.underlying52 rfl) hS ?_
          refine takeR (i := 4) (v := .int .i64 n) 95 rfl (by kernel_rfl) (by kernel_rfl) (by kernel_rfl) (by kernel_rfl) (fun _ _ _ h => h) (yields_pure (by kernel_rfl) (fun w => by kernel_rfl)) hS ?_
          refine takeR (i := 5) 96 rfl (by kernel_rfl) (by kernel_rfl) (by kernel_rfl) (by kernel_rfl) (fun _ _ _ h => h) (yields_load_row (by kernel_rfl) 62 _ rfl x11 (by kernel_rfl) 62 #[.int .i64 g1, .int .i64 size, (.slice uA k uc), .bool false, .int .i64 (0)] _ (fun X h => h.2) Tryz.underlying62 rfl (by kernel_rfl)) hS ?_
          refine wpAnyH_all (rs := [6]) (by kernel_rfl) (by simp) ?_
          intro j hj
          obtain rfl : j = 6 := by simpa using hj
          refine opR_skip (w' := (World.putO W2.drew t.gm (.map ((mset (t.ml.map MdE.ent) n (.agg #[.int .i64 g1, .int .i64 size, (.slice uA k uc), .bool false, .int .i64 (0)]) t.mc).map entM).toArray (mclk (t.ml.map MdE.ent) n t.mc)))) rfl (by kernel_rfl) (by kernel_rfl) (exec_mset (T := 52) (K := 3) (E := 62) (m := .tmp 94) (x := .tmp 95) (y := .tmp 96) (by kernel_rfl) Tryz.underlying52 Tryz.underlying3 (g := t.gm) (by kernel_rfl) (k := n) (by kernel_rfl) (v := .agg #[.int .i64 g1, .int .i64 size, (.slice uA k uc), .bool false, .int .i64 (0)]) (by kernel_rfl) (Nu.out.getm t.gm)) ?_
          refine ⟨⟨Nv.out.getc s, Nv.out.getc x11⟩, ?_⟩
          refine wpAnyH_done (by kernel_rfl) ?_ _
          refine NoPanic.normal ?_
          simp only [Act.put, List.setIfInBounds_toArray, List.set_cons_succ, List.set_cons_zero]
          clear hS
          have MZ : Hid (Has B w (World.putO W2.drew t.gm (.map ((mset (t.ml.map MdE.ent) n (.agg #[.int .i64 g1, .int .i64 size, (.slice uA k uc), .bool false, .int .i64 (0)]) t.mc).map entM).toArray (mclk (t.ml.map MdE.ent) n t.mc))) (Tw s (regT t n tm size false (.slice uA k uc)) Y)) := Lib.hid (by
            have h1 := Nv.out
            have e1 := mset_eset (ent := MdE.ent) (key := MdE.k) (st := MdE.b) (fun _ => rfl) (fun _ => rfl) (k := n) (v := .agg #[.int .i64 g1, .int .i64 size, (.slice uA k uc), .bool false, .int .i64 (0)]) (mk := fun b => (⟨n, ⟨g1, size, tm, false, 0⟩, (.slice uA k uc), b⟩ : MdE)) (fun _ => rfl) t.mc t.ml
            rw [eset_new HFN.out] at e1
            have e2 := mclk_new (ent := MdE.ent) (key := MdE.k) (fun _ => rfl) (c := t.mc) HFN.out
            rw [e1, e2] at h1 ⊢
            have h2 := h1.norm (Star (Bt (.slice uA k uc) tm) (Star (All mdW t.ml) (Star (Cel s 56 t.arr) (Star (Mp t.gm ((t.ml ++ [(⟨n, ⟨g1, size, tm, false, 0⟩, (.slice uA k uc), t.mc⟩ : MdE)]).map MdE.ent) (t.mc + 1)) (Star (Mp t.gg ((gsetL t n g1).map GnE.ent) (mclk (t.gl.map GnE.ent) n t.gc)) (Star (Mp t.gt (t.tl.map ThE.ent) t.tc) (Star (All thR t.tl) Y)))))))
            have h3 : Has B w _ (Star (All mdW (t.ml ++ [(⟨n, ⟨g1, size, tm, false, 0⟩, (.slice uA k uc), t.mc⟩ : MdE)])) (Star (Cel s 56 t.arr) (Star (Mp t.gm ((t.ml ++ [(⟨n, ⟨g1, size, tm, false, 0⟩, (.slice uA k uc), t.mc⟩ : MdE)]).map MdE.ent) (t.mc + 1)) (Star (Mp t.gg ((gsetL t n g1).map GnE.ent) (mclk (t.gl.map GnE.ent) n t.gc)) (Star (Mp t.gt (t.tl.map ThE.ent) t.tc) (Star (All thR t.tl) Y)))))) := h2.imp (fun F hh => all_put (f := mdW) (x := (⟨n, ⟨g1, size, tm, false, 0⟩, (.slice uA k uc), t.mc⟩ : MdE)) (l1 := t.ml) (l2 := []) (by rw [List.append_nil]; exact bt_mdW rfl hh))
            have h4 := h3.norm (Star (Cel s 56 t.arr) (Star (Mp t.gm ((t.ml ++ [(⟨n, ⟨g1, size, tm, false, 0⟩, (.slice uA k uc), t.mc⟩ : MdE)]).map MdE.ent) (t.mc + 1)) (Star (Mp t.gg ((gsetL t n g1).map GnE.ent) (mclk (t.gl.map GnE.ent) n t.gc)) (Star (Mp t.gt (t.tl.map ThE.ent) t.tc) (Star (All mdW (t.ml ++ [(⟨n, ⟨g1, size, tm, false, 0⟩, (.slice uA k uc), t.mc⟩ : MdE)])) (Star (All thR t.tl) Y))))))
            have h5 := HG1.out
            subst h5
            exact h4)
          have HE : Hid (RegW s t Y B w tm size false (.returned (.tuple #[.int .i64 n, .int .i64 0])) (World.putO W2.drew t.gm (.map ((mset (t.ml.map MdE.ent) n (.agg #[.int .i64 g1, .int .i64 size, (.slice uA k uc), .bool false, .int .i64 (0)]) t.mc).map entM).toArray (mclk (t.ml.map MdE.ent) n t.mc)))) := Lib.hid (HHE.out _ _ ⟨n, HFR.out, by rw [if_neg h64]; (first | rw [if_neg HFULL.out] | rw [if_neg (fun hh => HFULL.out ⟨by first | rfl | exact absurd hh.1 (by decide), hh.2⟩)]); exact ⟨rfl, _, MZ.out⟩⟩)
          clear Nu Nv MZ
          go_wp2_with fail
          go_ret2
          exact HE.out
        focus
          have Nf := Lib.hid (M1d.out.newcel 62 #[.int .i64 0, .int .i64 0, .slice none 0 0, .bool false, .int .i64 0])
          have hsr : SrcB (W1.drew.alloc (.cells #[.int .i64 0, .int .i64 0, .slice none 0 0, .bool false, .int .i64 0] 62)) A tm := fun hne => by
            obtain ⟨bb, off, hA, hc⟩ := HSR1.out hne
            exact ⟨bb, off, hA, fun j x hj => Lib.cell?_alloc_some _ (hc j x hj)⟩
          refine opR_run (v := .pointer (some ⟨W1.drew.heap.size, 0, none⟩)) (w' := W1.drew.alloc (.cells #[.int .i64 0, .int .i64 0, .slice none 0 0, .bool false, .int .i64 0] 62)) 11 rfl (by kernel_rfl) (by kernel_rfl) (by kernel_rfl) ?_
          refine ⟨SC.out _ Nf.out.right, ?_⟩
          clear hS
          have hS := SC.out _ Nf.out.right
          have C1 := clone_src (c := c) hsr (by rw [HK.out]; omega)
          rw [HK.out] at C1
          refine wpAnyH_all (rs := [8]) (by kernel_rfl) (by simp) ?_
          intro j hj
          obtain rfl : j = 8 := by simpa using hj
          refine opR_call 58 rfl rfl (by kernel_rfl) _ _ _ rfl _ (by kernel_rfl) (C1.mono ?_)
          rintro e X1 ⟨v1, rfl, hb1, hbel⟩
          obtain ⟨uA, uc, hu, -, -⟩ := hb1.src
          rw [HK.out] at hu
          subst hu
          have Ne := Lib.hid (Nf.out.bytes hb1 hbel)
          refine ⟨_, rfl, SC.out _ Ne.out.right.right, ?_⟩
          clear hS
          have hS := SC.out _ Ne.out.right.right
          clear hb1 hbel hsr C1
          refine takeR (i := 10) (v := .agg #[.int .i64 g1, .int .i64 size, (.slice uA k uc), .bool false, .int .i64 (0)]) 60 rfl (by kernel_rfl) (by kernel_rfl) (by kernel_rfl) (by kernel_rfl) (fun _ _ _ h => h) (yields_pure (by kernel_rfl) (fun w => by kernel_rfl)) hS ?_
          have Ng := Lib.hid (Ne.out.rowc W1.drew.heap.size #[.int .i64 g1, .int .i64 size, (.slice uA k uc), .bool false, .int .i64 (0)])
          refine wpAnyH_all (rs := [12]) (by kernel_rfl) (by simp) ?_
          intro j hj
          obtain rfl : j = 12 := by simpa using hj
          refine opR_store rfl (by kernel_rfl) (by kernel_rfl) 62 _ _ rfl W1.drew.heap.size #[.int .i64 g1, .int .i64 size, (.slice uA k uc), .bool false, .int .i64 (0)] (by kernel_rfl) (by kernel_rfl) 62 #[.int .i64 0, .int .i64 0, .slice none 0 0, .bool false, .int .i64 0] (Ne.out.getc _) (by kernel_rfl) rfl (by kernel_rfl) ?_
          refine ⟨SC.out _ Ng.out.right.right, ?_⟩
          refine wpAnyH_done (by kernel_rfl) ?_ _
          refine NoPanic.normal ?_
          simp only [Act.put, List.setIfInBounds_toArray, List.set_cons_succ, List.set_cons_zero]
          have Nn := Lib.hid (Ng.out.swap)
          generalize W1.drew.heap.size = x11 at Nn ⊢
          obtain ⟨W2, hW⟩ : ∃ W2, X1.setRow x11 #[.int .i64 g1, .int .i64 size, (.slice uA k uc), .bool false, .int .i64 (0)] = W2 := ⟨_, rfl⟩
          rw [hW] at Nn ⊢
          clear hW Ng Nf Ne hS SC M1d
          go_upto_region 18 with fail
          have Nu := Lib.hid (Nn.out.stay ((Below.refl _ W2).drew))
          have Nv := Lib.hid (Nu.out.setm t.gm (mset (t.ml.map MdE.ent) n (.agg #[.int .i64 g1, .int .i64 size, (.slice uA k uc), .bool false, .int .i64 (0)]) t.mc) (mclk (t.ml.map MdE.ent) n t.mc))
          have HC0 : Hid (∀ X : World, Blk X s 56 t.arr → X.cell? ⟨s, 0, none⟩ = some (.map (some t.gm))) := Lib.hid (fun X h => by rw [h.cell]; rfl)
          have hS0 : (fun X : World => Blk X s 56 t.arr ∧ Blk X x11 62 #[.int .i64 g1, .int .i64 size, (.slice uA k uc), .bool false, .int .i64 (0)]) W2.drew := ⟨Nu.out.getc s, Nu.out.getc x11⟩
          refine wp_region_noPanic ?_
          refine wp_region_held_drew (S := (fun X : World => Blk X s 56 t.arr ∧ Blk X x11 62 #[.int .i64 g1, .int .i64 size, (.slice uA k uc), .bool false, .int .i64 (0)])) (by kernel_rfl) hS0 ?_
          clear hS0
          intro hS
          refine takeR (i := 0) (v := .pointer (some ⟨s, 0, none⟩)) 91 rfl (by kernel_rfl) (by kernel_rfl) (by kernel_rfl) (by kernel_rfl) (fun _ _ _ h => h) (yields_pure (by kernel_rfl) (fun w => by kernel_rfl)) hS ?_
          refine takeR (i := 1) (v := .pointer (some ⟨s, 0, none⟩)) 92 rfl (by kernel_rfl) (by kernel_rfl) (by kernel_rfl) (by kernel_rfl) (fun _ _ _ h => h) (yields_pure (by kernel_rfl) (fun w => by kernel_rfl)) hS ?_
          refine takeR (i := 2) (v := .pointer (some ⟨s, 0, none⟩)) 93 rfl (by kernel_rfl) (by kernel_rfl) (by kernel_rfl) (by kernel_rfl) (fun _ _ _ h => h) (yields_pure (by kernel_rfl) (fun w => by kernel_rfl)) hS ?_
          refine takeR (i := 3) 94 rfl (by kernel_rfl) (by kernel_rfl) (by kernel_rfl) (by kernel_rfl) (fun _ _ _ h => h) (yields_load_cell (by kernel_rfl) 52 _ rfl s 0 (by kernel_rfl) (.map (some t.gm)) (fun X h => HC0.out X h.1) _ Tryz.underlying52 rfl) hS ?_
          refine takeR (i := 4) (v := .int .i64 n) 95 rfl (by kernel_rfl) (by kernel_rfl) (by kernel_rfl) (by kernel_rfl) (fun _ _ _ h => h) (yields_pure (by kernel_rfl) (fun w => by kernel_rfl)) hS ?_
          refine takeR (i := 5) 96 rfl (by kernel_rfl) (by kernel_rfl) (by kernel_rfl) (by kernel_rfl) (fun _ _ _ h => h) (yields_load_row (by kernel_rfl) 62 _ rfl x11 (by kernel_rfl) 62 #[.int .i64 g1, .int .i64 size, (.slice uA k uc), .bool false, .int .i64 (0)] _ (fun X h => h.2) Tryz.underlying62 rfl (by kernel_rfl)) hS ?_
          refine wpAnyH_all (rs := [6]) (by kernel_rfl) (by simp) ?_
          intro j hj
          obtain rfl : j = 6 := by simpa using hj
          refine opR_skip (w' := (World.putO W2.drew t.gm (.map ((mset (t.ml.map MdE.ent) n (.agg #[.int .i64 g1, .int .i64 size, (.slice uA k uc), .bool false, .int .i64 (0)]) t.mc).map entM).toArray (mclk (t.ml.map MdE.ent) n t.mc)))) rfl (by kernel_rfl) (by kernel_rfl) (exec_mset (T := 52) (K := 3) (E := 62) (m := .tmp 94) (x := .tmp 95) (y := .tmp 96) (by kernel_rfl) Tryz.underlying52 Tryz.underlying3 (g := t.gm) (by kernel_rfl) (k := n) (by kernel_rfl) (v := .agg #[.int .i64 g1, .int .i64 size, (.slice uA k uc), .bool false, .int .i64 (0)]) (by kernel_rfl) (Nu.out.getm t.gm)) ?_
          refine ⟨⟨Nv.out.getc s, Nv.out.getc x11⟩, ?_⟩
          refine wpAnyH_done (by kernel_rfl) ?_ _
          refine NoPanic.normal ?_
          simp only [Act.put, List.setIfInBounds_toArray, List.set_cons_succ, List.set_cons_zero]
          clear hS
          have MZ : Hid (Has B w (World.putO W2.drew t.gm (.map ((mset (t.ml.map MdE.ent) n (.agg #[.int .i64 g1, .int .i64 size, (.slice uA k uc), .bool false, .int .i64 (0)]) t.mc).map entM).toArray (mclk (t.ml.map MdE.ent) n t.mc))) (Tw s (regT t n tm size false (.slice uA k uc)) Y)) := Lib.hid (by
            have h1 := Nv.out
            have e1 := mset_eset (ent := MdE.ent) (key := MdE.k) (st := MdE.b) (fun _ => rfl) (fun _ => rfl) (k := n) (v := .agg #[.int .i64 g1, .int .i64 size, (.slice uA k uc), .bool false, .int .i64 (0)]) (mk := fun b => (⟨n, ⟨g1, size, tm, false, 0⟩, (.slice uA k uc), b⟩ : MdE)) (fun _ => rfl) t.mc t.ml
            rw [eset_new HFN.out] at e1
            have e2 := mclk_new (ent := MdE.ent) (key := MdE.k) (fun _ => rfl) (c := t.mc) HFN.out
            rw [e1, e2] at h1 ⊢
            have h2 := h1.norm (Star (Bt (.slice uA k uc) tm) (Star (All mdW t.ml) (Star (Cel s 56 t.arr) (Star (Mp t.gm ((t.ml ++ [(⟨n, ⟨g1, size, tm, false, 0⟩, (.slice uA k uc), t.mc⟩ : MdE)]).map MdE.ent) (t.mc + 1)) (Star (Mp t.gg ((gsetL t n g1).map GnE.ent) (mclk (t.gl.map GnE.ent) n t.gc)) (Star (Mp t.gt (t.tl.map ThE.ent) t.tc) (Star (All thR t.tl) Y)))))))
            have h3 : Has B w _ (Star (All mdW (t.ml ++ [(⟨n, ⟨g1, size, tm, false, 0⟩, (.slice uA k uc), t.mc⟩ : MdE)])) (Star (Cel s 56 t.arr) (Star (Mp t.gm ((t.ml ++ [(⟨n, ⟨g1, size, tm, false, 0⟩, (.slice uA k uc), t.mc⟩ : MdE)]).map MdE.ent) (t.mc + 1)) (Star (Mp t.gg ((gsetL t n g1).map GnE.ent) (mclk (t.gl.map GnE.ent) n t.gc)) (Star (Mp t.gt (t.tl.map ThE.ent) t.tc) (Star (All thR t.tl) Y)))))) := h2.imp (fun F hh => all_put (f := mdW) (x := (⟨n, ⟨g1, size, tm, false, 0⟩, (.slice uA k uc), t.mc⟩ : MdE)) (l1 := t.ml) (l2 := []) (by rw [List.append_nil]; exact bt_mdW rfl hh))
            have h4 := h3.norm (Star (Cel s 56 t.arr) (Star (Mp t.gm ((t.ml ++ [(⟨n, ⟨g1, size, tm, false, 0⟩, (.slice uA k uc), t.mc⟩ : MdE)]).map MdE.ent) (t.mc + 1)) (Star (Mp t.gg ((gsetL t n g1).map GnE.ent) (mclk (t.gl.map GnE.ent) n t.gc)) (Star (Mp t.gt (t.tl.map ThE.ent) t.tc) (Star (All mdW (t.ml ++ [(⟨n, ⟨g1, size, tm, false, 0⟩, (.slice uA k uc), t.mc⟩ : MdE)])) (Star (All thR t.tl) Y))))))
            have h5 := HG1.out
            subst h5
            exact h4)
          have HE : Hid (RegW s t Y B w tm size false (.returned (.tuple #[.int .i64 n, .int .i64 0])) (World.putO W2.drew t.gm (.map ((mset (t.ml.map MdE.ent) n (.agg #[.int .i64 g1, .int .i64 size, (.slice uA k uc), .bool false, .int .i64 (0)]) t.mc).map entM).toArray (mclk (t.ml.map MdE.ent) n t.mc)))) := Lib.hid (HHE.out _ _ ⟨n, HFR.out, by rw [if_neg h64]; (first | rw [if_neg HFULL.out] | rw [if_neg (fun hh => HFULL.out ⟨by first | rfl | exact absurd hh.1 (by decide), hh.2⟩)]); exact ⟨rfl, _, MZ.out⟩⟩)
          clear Nu Nv MZ
          go_wp2_with fail
          go_ret2
          exact HE.out
  | true => exact absurd hst0.out (by decide)
theorem RegW.plain {s : Nat} {t : Ts} {Y : Res} {B : Nat} {w w' : World} {e : Ending} {tm : List UInt8} {size : Int} {st : Bool} (h : RegW s t Y B w tm size st e w') : ∃ n r t', RegP t tm size st n r t' ∧ e = .returned (.tuple #[.int .i64 n, .int .i64 r]) ∧ Has B w w' (Tw s t' Y) := by
  unfold RegW at h
  unfold RegP
  by_cases h1 : size < 1 ∨ 4096 < size ∨ size < tm.length
  · rw [if_pos h1] at h
    exact ⟨0, 1, t, by rw [if_pos h1]; exact ⟨rfl, rfl, rfl⟩, h.1, h.2⟩
  rw [if_neg h1] at h
  by_cases h2 : st = true ∧ t.sd = true
  · rw [if_pos h2] at h
    exact ⟨0, 172, t, by rw [if_neg h1, if_pos h2]; exact ⟨rfl, rfl, rfl⟩, h.1, h.2⟩
  rw [if_neg h2] at h
  obtain ⟨m, hm, h⟩ := h
  by_cases h3 : 64 < m
  · rw [if_pos h3] at h
    exact ⟨0, 3, t, by rw [if_neg h1, if_neg h2]; exact ⟨m, hm, by rw [if_pos h3]; exact ⟨rfl, rfl, rfl⟩⟩, h.1, h.2⟩
  rw [if_neg h3] at h
  by_cases h4 : st = true ∧ wrap64 (4096 - t.ar) < upT size
  · rw [if_pos h4] at h
    exact ⟨0, 3, _, by rw [if_neg h1, if_neg h2]; exact ⟨m, hm, by rw [if_neg h3, if_pos h4]; exact ⟨rfl, rfl, rfl⟩⟩, h.1, h.2⟩
  rw [if_neg h4] at h
  obtain ⟨h5, v, h6⟩ := h
  exact ⟨m, 0, _, by rw [if_neg h1, if_neg h2]; exact ⟨m, hm, by rw [if_neg h3, if_neg h4]; exact ⟨rfl, rfl, v, rfl⟩⟩, h5, h6⟩
end Go.Proofs.YtpenejigebkkmaaGreat
