/-
  Layer 17: tls.Exit.
  Conditions: none. (My own text.)
-/
import Derived.Test.YtpenejigebkkmaaGreatTga
namespace Go.Proofs.YtpenejigebkkmaaGreat
open Go.RowKit Spm
set_option linter.unusedVariables false
set_option linter.unusedSimpArgs false

attribute [local irreducible] wpList
def unmapsS (L : List Rg) (az : List Int) : List Rg := az.foldl (fun L a => (unmapS L a).1) L
theorem unmapsS_snoc (L : List Rg) (az : List Int) (a : Int) : unmapsS L (az ++ [a]) = (unmapS (unmapsS L az) a).1 := by
  unfold unmapsS
  rw [List.foldl_append]
  rfl
/-- A thread's blocks out of the state. -/
abbrev TlX (s : Nat) (t : Ts) (tl : List ThE) (Y : Res) : Res := Star (Cel s 56 t.arr) (Star (Mp t.gm (t.ml.map MdE.ent) t.mc) (Star (Mp t.gg (t.gl.map GnE.ent) t.gc) (Star (Mp t.gt (t.tl.map ThE.ent) t.tc) (Star (All mdR t.ml) (Star (All thR tl) Y)))))
theorem all_out {α : Type} {f : α → Res} {x : α} {l1 l2 : List α} {Y : Res} {w : World} {F : Nat → Prop} (h : Star (All f (l1 ++ x :: l2)) Y w F) : Star (f x) (Star (All f (l1 ++ l2)) Y) w F :=
  Star.assoc (show Star (Star (f x) (All f (l1 ++ l2))) Y w F from by
    obtain ⟨F1, F2, h1, h2, hd, g1, g2⟩ := h
    exact ⟨F1, F2, All.out h1, h2, hd, g1, g2⟩)
theorem all_put {α : Type} {f : α → Res} {x : α} {l1 l2 : List α} {Y : Res} {w : World} {F : Nat → Prop} (h : Star (f x) (Star (All f (l1 ++ l2)) Y) w F) : Star (All f (l1 ++ x :: l2)) Y w F := by
  obtain ⟨F1, F2, h1, h2, hd, g1, g2⟩ := Star.assoc' h
  exact ⟨F1, F2, All.put h1, h2, hd, g1, g2⟩
theorem TlX.take {B : Nat} {w wr : World} {Y : Res} {s : Nat} {t : Ts} {x : ThE} {tl l1 l2 : List ThE} (h : Has B w wr (TlX s t tl Y)) (e : tl = l1 ++ x :: l2) : Has B w wr (Star (Mp x.g (x.bl.map BkE.ent) x.c) (TlX s t (l1 ++ l2) Y)) := by
  subst e
  have h2 := h.imp (fun F => Star.under fun F => Star.under fun F => Star.under fun F => Star.under fun F => Star.under fun F => all_out)
  have h3 := h2.imp (fun F => Star.under fun F => Star.under fun F => Star.under fun F => Star.under fun F => Star.swap)
  have h4 := h3.imp (fun F => Star.under fun F => Star.under fun F => Star.under fun F => Star.swap)
  have h5 := h4.imp (fun F => Star.under fun F => Star.under fun F => Star.swap)
  have h6 := h5.imp (fun F => Star.under fun F => Star.swap)
  exact h6.swap
theorem Tl.take {B : Nat} {w wr : World} {Y : Res} {s : Nat} {t : Ts} {x : ThE} {l1 l2 : List ThE} (h : Has B w wr (Tl s t Y)) (e : t.tl = l1 ++ x :: l2) : Has B w wr (Star (Mp x.g (x.bl.map BkE.ent) x.c) (TlX s t (l1 ++ l2) Y)) := TlX.take h e
theorem all_out_of {α : Type} {f : α → Res} {x : α} {l l1 l2 : List α} {Y : Res} {w : World} {F : Nat → Prop} (e : l = l1 ++ x :: l2) (h : Star (All f l) Y w F) : Star (f x) (Star (All f (l1 ++ l2)) Y) w F := by
  subst e
  exact all_out h
theorem Tl.tmpl {B : Nat} {w wr : World} {Y : Res} {s : Nat} {t : Ts} {x : MdE} {tl : List ThE} {l1 l2 : List MdE} (h : Has B w wr (TlX s t tl Y)) (e : t.ml = l1 ++ x :: l2) : Bys wr 0 x.v x.x.tm := by
  have h1 := h.imp (fun F => Star.under fun F => Star.under fun F => Star.under fun F => Star.under fun F => all_out_of e)
  exact (h1.imp (fun F hh => Star.swap (Star.under (fun _ h => Star.swap (Star.under (fun _ h => Star.swap (Star.under (fun _ h => Star.swap h) h)) h)) hh))).bt
set_option maxRecDepth 100000 in
theorem mdA_one {x : Mdl} {v : Value} {A : Option Addr} {n c : Nat} (h : v = .slice A n c) : (mdA x v).all (·.oneCell') = true := by
  subst h
  kernel_rfl
theorem Tl.give {B : Nat} {w wr : World} {Y : Res} {s : Nat} {t : Ts} {x : ThE} {l1 l2 : List ThE} (h : Has B w wr (Star (Mp x.g (x.bl.map BkE.ent) x.c) (TlX s t (l1 ++ l2) Y))) : Has B w wr (TlX s t (l1 ++ x :: l2) Y) := by
  have h6 := h.swap
  have h5 := h6.imp (fun F => Star.under fun F => Star.swap)
  have h4 := h5.imp (fun F => Star.under fun F => Star.under fun F => Star.swap)
  have h3 := h4.imp (fun F => Star.under fun F => Star.under fun F => Star.under fun F => Star.swap)
  have h2 := h3.imp (fun F => Star.under fun F => Star.under fun F => Star.under fun F => Star.under fun F => Star.swap)
  exact h2.imp (fun F => Star.under fun F => Star.under fun F => Star.under fun F => Star.under fun F => Star.under fun F => all_put (f := thR) (x := x))
def ExitE (s : Nat) (t : Ts) (a : Nat) (L : List Rg) (Y : Res) (B : Nat) (w : World) (id : Int) (e : Ending) (w' : World) : Prop := match efind ThE.k t.tl id with
  | none => e = .returned (.int .i64 171) ∧ Has B w w' (Tl s t (Star (Sp a L) Y))
  | some x => e = .returned (.int .i64 0) ∧ ∃ az, az.Perm (x.bl.map fun y => y.x.at_) ∧ Has B w w' (Tl s { t with tl := edel ThE.k t.tl id } (Star (Sp a (unmapS (unmapsS L az) x.tp).1) Y))
set_option maxRecDepth 100000 in
set_option maxHeartbeats 4000000 in
theorem texit_any {B : Nat} {w wr : World} {Y : Res} [hY : Fr Y] {s a : Nat} {t : Ts} {L : List Rg} (h : Has B w wr (Tl s t (Star (Sp a L) Y))) (hg : TsGood t) (id : Int) : Calls Tryz.prog 11 #[.pointer (some ⟨s, 0, none⟩), .pointer (some ⟨a, 0, none⟩), .int .i64 id] wr (ExitE s t a L Y B w id) := by
  have M0 := Lib.hid h
  have HG := Lib.hid hg
  have s2 : wr.cell? ⟨s, 2, none⟩ = some (.map (some t.gt)) := M0.out.cellat s 2 rfl
  have hmg := mget_efind (ent := ThE.ent) (key := ThE.k) (fun _ => rfl) id t.tl
  clear h hg
  cases hf : efind ThE.k t.tl id with
  | none =>
    rw [hf] at hmg
    have hv : (mget (t.tl.map ThE.ent) id).getD (.agg #[.int .i64 0, .map none]) = .agg #[.int .i64 0, .map none] := by rw [hmg]; rfl
    have hb : (mget (t.tl.map ThE.ent) id).isSome = false := by rw [hmg]; rfl
    have HE : Hid (∀ w', Has B w w' (Tl s t (Star (Sp a L) Y)) → ExitE s t a L Y B w id (.returned (.int .i64 171)) w') := Lib.hid (fun w' hh => by unfold ExitE; rw [hf]; exact ⟨rfl, hh⟩)
    have Na := Lib.hid (M0.out.newcel 66 #[.int .i64 0, .map none])
    have Nb := Lib.hid ((Na.out.rowc wr.heap.size #[.int .i64 0, .map none]).norm (Tl s t (Star (Sp a L) Y)))
    clear hmg hf
    go_enter Tryz.func11, Tryz.ntmps11
    go_wp2_with (first | (refine wpList_mlookR rfl 54 3 66 _ _ rfl Tryz.underlying54 Tryz.underlying3 t.gt _ _ rfl id rfl (M0.out.getm t.gt) (.agg #[.int .i64 0, .map none]) z_thr (.agg #[.int .i64 0, .map none]) false hv hb ?_) | (refine wpList_store_row rfl 66 _ _ rfl wr.heap.size #[.int .i64 0, .map none] rfl rfl 66 #[.int .i64 0, .map none] (Na.out.getc wr.heap.size) (by kernel_rfl) rfl (by kernel_rfl) ?_))
    go_ret
    exact HE.out _ Nb.out
  | some x =>
    rw [hf] at hmg
    obtain ⟨l1, l2, hl, hdel, hkx, -⟩ := efind_split hf
    have hv : (mget (t.tl.map ThE.ent) id).getD (.agg #[.int .i64 0, .map none]) = .agg (thA x.tp x.g) := by rw [hmg]; rfl
    have hb : (mget (t.tl.map ThE.ent) id).isSome = true := by rw [hmg]; rfl
    have HGB : Hid (Good (x.bl.map BkE.ent) x.c) := Lib.hid (HG.out.gdb x (by rw [hl]; simp))
    have HE : Hid (∀ w' az, az.Perm (x.bl.map fun y => y.x.at_) → Has B w w' (Tl s { t with tl := edel ThE.k t.tl id } (Star (Sp a (unmapS (unmapsS L az) x.tp).1) Y)) → ExitE s t a L Y B w id (.returned (.int .i64 0)) w') := Lib.hid (fun w' az hp hh => by unfold ExitE; rw [hf]; exact ⟨rfl, az, hp, hh⟩)
    have M1 := Lib.hid (Tl.take M0.out hl)
    have HDL := Lib.hid hdel
    have HMD := Lib.hid (mdel_edel (ent := ThE.ent) (key := ThE.k) (fun _ => rfl) id t.tl)
    have Na := Lib.hid (M1.out.newcel 66 #[.int .i64 0, .map none])
    have Nb := Lib.hid (Na.out.rowc wr.heap.size (thA x.tp x.g))
    clear hmg hf hl hdel hkx
    go_enter Tryz.func11, Tryz.ntmps11
    go_upto_region 2 with (first | (refine wpList_mlookR rfl 54 3 66 _ _ rfl Tryz.underlying54 Tryz.underlying3 t.gt _ _ rfl id rfl (M0.out.getm t.gt) (.agg #[.int .i64 0, .map none]) z_thr (.agg (thA x.tp x.g)) true hv hb ?_) | (refine wpList_store_row rfl 66 _ _ rfl wr.heap.size (thA x.tp x.g) rfl rfl 66 #[.int .i64 0, .map none] (Na.out.getc wr.heap.size) (by kernel_rfl) rfl (by kernel_rfl) ?_))
    obtain ⟨W1, hW⟩ : ∃ W1, (wr.alloc (.cells #[.int .i64 0, .map none] 66)).setRow wr.heap.size (thA x.tp x.g) = W1 := ⟨_, rfl⟩
    rw [hW] at Nb ⊢
    clear hW Na s2 M0 M1
    generalize wr.heap.size = x7 at Nb ⊢
    have x71 : W1.cell? ⟨x7, 1, none⟩ = some (.map (some x.g)) := Nb.out.cellat x7 1 rfl
    have Ma := Lib.hid (Nb.out.newitr x.g x.c)
    go_upto_region 5 with (first | (refine wpList_mrange rfl 64 3 69 _ rfl Tryz.underlying64 x.g (x.bl.map BkE.ent) x.c rfl (Nb.out.getm x.g) ?_))
    obtain ⟨W2, hW⟩ : ∃ W2, W1.alloc (.mapIter (some x.g) x.c #[] x.c) = W2 := ⟨_, rfl⟩
    rw [hW] at Ma ⊢
    clear hW
    generalize W1.heap.size = it at Ma ⊢
    have M2 : Hid (Has B w W2 (Star (Itr it x.g x.c #[] x.c) (Star (Cel x7 66 (thA x.tp x.g)) (Star (Mp x.g (x.bl.map BkE.ent) x.c) (TlX s t (l1 ++ l2) (Star (Sp a (unmapsS L [])) Y)))))) := Ma
    clear Ma Nb x71
    simp only [Act.put, List.setIfInBounds_toArray, List.set_cons_succ, List.set_cons_zero]
    go_loopw [] (fun wr => ∃ (seen : Array Nat) (vis : List BkE), Hid ((vis ++ leftA BkE.b x.bl seen).Perm x.bl) ∧ Hid (Has B w wr (Star (Itr it x.g x.c seen x.c) (Star (Cel x7 66 (thA x.tp x.g)) (Star (Mp x.g (x.bl.map BkE.ent) x.c) (TlX s t (l1 ++ l2) (Star (Sp a (unmapsS L (vis.map fun y => y.x.at_))) Y))))))) (fun wr => (leftA BkE.b x.bl (wr.iterSeen it)).length)
    case atStart => exact ⟨#[], [], Lib.hid (by rw [leftA_none]; exact List.Perm.refl _), M2⟩
    case round =>
      clear M2
      obtain ⟨seen, vis, HPM, M8⟩ := hrel
      obtain ⟨w8, hw8⟩ : ∃ w8, w8 = wr := ⟨_, rfl⟩
      rw [← hw8] at M8 ⊢
      clear hw8
      rcases run_mnextA (P := Tryz.prog) (ent := BkE.ent) (key := BkE.k) (val := fun y => .agg (bkA y.x)) (st := BkE.b) (fun _ => rfl) M8.out.itr (M8.out.getm x.g) HGB.out.past (Nat.le_refl _) with ⟨hD, hr⟩ | ⟨y, hy, w9, hr, hi9, hk9⟩
      · have HD := Lib.hid hD
        clear hD
        have x70 : w8.cell? ⟨x7, 0, none⟩ = some (.int .i64 x.tp) := M8.out.cellat x7 0 rfl
        have C1 := Lib.hid (own_unmap (M8.out.pick (Sp a (unmapsS L (vis.map fun y => y.x.at_)))) x.tp)
        go_wp2_with (first | (refine wpList_next0 rfl _ rfl it rfl hr ?_))
        refine (C1.out).mono ?_
        rintro e wa ⟨rfl, m⟩
        have Ma := Lib.hid (m.norm (TlX s t (l1 ++ l2) (Star (Sp a (unmapS (unmapsS L (vis.map fun y => y.x.at_)) x.tp).1) Y)))
        have sa : wa.cell? ⟨s, 2, none⟩ = some (.map (some t.gt)) := Ma.out.cellat s 2 rfl
        clear m C1 x70 hr M8
        have Mb := Lib.hid (Ma.out.setm t.gt (mdel (t.tl.map ThE.ent) id) t.tc)
        have MZ : Hid (Has B w (World.putO wa t.gt (.map ((mdel (t.tl.map ThE.ent) id).map entM).toArray t.tc)) (Tl s { t with tl := edel ThE.k t.tl id } (Star (Sp a (unmapS (unmapsS L (vis.map fun y => y.x.at_)) x.tp).1) Y))) := Lib.hid (by
          have h1 := Mb.out
          rw [← HDL.out] at h1
          have h2 := HMD.out
          rw [h2] at h1 ⊢
          exact h1)
        have HP2 : Hid ((vis.map fun y => y.x.at_).Perm (x.bl.map fun y => y.x.at_)) := Lib.hid (by
          have h1 := HPM.out
          rw [HD.out, List.append_nil] at h1
          exact h1.map _)
        clear Mb
        go_wp2_with (first | (refine wpList_mdel rfl 54 3 66 _ _ _ rfl Tryz.underlying54 Tryz.underlying3 t.gt _ t.tc rfl id rfl (Ma.out.getm t.gt) ?_))
        go_ret
        exact HE.out _ _ HP2.out MZ.out
      · have M9 := Lib.hid (M8.out.stepitr hi9 hk9)
        have HLP := Lib.hid (leftA_push (st := BkE.b) (by have := HGB.out.born; rw [List.map_map] at this; exact this) hy)
        have hyb : y ∈ x.bl := (List.mem_filter.1 hy).1
        have HSZ := Lib.hid M8.out.iseen
        have HYB := Lib.hid hyb
        have hse : w9.heap.size = w9.heap.size := rfl
        have Na := Lib.hid (M9.out.newcel 69 #[.int .i64 0, .int .i64 0, .int .i64 0, .int .i64 0])
        have Nb := Lib.hid (Na.out.rowc w9.heap.size (bkA y.x))
        clear hy hyb hi9 hk9 hse
        go_upto_region 7 with (first | (refine wpList_next0 rfl _ rfl it rfl hr ?_) | (refine wpList_mentryA (ent := BkE.ent) (key := BkE.k) (val := fun y => .agg (bkA y.x)) (st := BkE.b) (fun _ => rfl) rfl _ rfl it x.g x.c x.c seen x.bl y rfl M9.out.itr (M9.out.getm x.g) HYB.out HGB.out.born ?_) | (refine wpList_store_row rfl 69 _ _ rfl w9.heap.size (bkA y.x) rfl rfl 69 #[.int .i64 0, .int .i64 0, .int .i64 0, .int .i64 0] (Na.out.getc w9.heap.size) (by kernel_rfl) rfl (by kernel_rfl) ?_))
        obtain ⟨W3, hW⟩ : ∃ W3, (w9.alloc (.cells #[.int .i64 0, .int .i64 0, .int .i64 0, .int .i64 0] 69)).setRow w9.heap.size (bkA y.x) = W3 := ⟨_, rfl⟩
        rw [hW] at Nb ⊢
        clear hW Na hr
        generalize w9.heap.size = x10 at Nb ⊢
        have y2 : W3.cell? ⟨x10, 2, none⟩ = some (.int .i64 y.x.at_) := Nb.out.cellat x10 2 rfl
        have C2 := Lib.hid (own_unmap (Nb.out.pick (Sp a (unmapsS L (vis.map fun y => y.x.at_)))) y.x.at_)
        clear M9
        go_wp2_with fail
        refine (C2.out).mono ?_
        rintro e wa ⟨rfl, m⟩
        have Ma := Lib.hid (m.norm (Star (Itr it x.g x.c (seen.push y.b) x.c) (Star (Cel x7 66 (thA x.tp x.g)) (Star (Mp x.g (x.bl.map BkE.ent) x.c) (TlX s t (l1 ++ l2) (Star (Sp a (unmapS (unmapsS L (vis.map fun y => y.x.at_)) y.x.at_).1) Y))))))
        have Mb : Hid (Has B w wa (Star (Itr it x.g x.c (seen.push y.b) x.c) (Star (Cel x7 66 (thA x.tp x.g)) (Star (Mp x.g (x.bl.map BkE.ent) x.c) (TlX s t (l1 ++ l2) (Star (Sp a (unmapsS L ((vis ++ [y]).map fun y => y.x.at_))) Y)))))) := Lib.hid (by
          have h1 := Ma.out
          rw [List.map_append, List.map_cons, List.map_nil, unmapsS_snoc]
          exact h1)
        have HP2 : Hid (((vis ++ [y]) ++ leftA BkE.b x.bl (seen.push y.b)).Perm x.bl) := Lib.hid (by
          refine List.Perm.trans ?_ HPM.out
          rw [List.append_assoc]
          exact (HLP.out.symm.append_left vis))
        have HM : Hid ((leftA BkE.b x.bl (wa.iterSeen it)).length < (leftA BkE.b x.bl (w8.iterSeen it)).length) := Lib.hid (by
          rw [Mb.out.iseen, HSZ.out]
          have := HLP.out.length_eq
          simp only [List.length_cons] at this
          omega)
        clear m C2 y2 Nb Ma
        go_wp2_with fail
        first
          | (go_roundw
             case rel => exact ⟨_, _, HP2, Mb⟩
             case measure => exact HM.out)
          | (refine ⟨?_, ?_⟩
             · (repeat apply Exists.intro)
               refine ⟨?_, rfl⟩
               exact ⟨_, _, HP2, Mb⟩
             · exact HM.out)
          | exact ⟨⟨_, _, HP2, Mb⟩, HM.out⟩
end Go.Proofs.YtpenejigebkkmaaGreat
