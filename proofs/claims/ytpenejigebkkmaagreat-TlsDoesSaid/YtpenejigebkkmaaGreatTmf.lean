/-
  Layer 17: tls.Release.
  Conditions: none. (My own text.)
-/
import Derived.Test.YtpenejigebkkmaaGreatTme
namespace Go.Proofs.YtpenejigebkkmaaGreat
open Go.RowKit Spm
set_option linter.unusedVariables false
set_option linter.unusedSimpArgs false

attribute [local irreducible] wpList
def dropB (n : Int) (y : ThE) : ThE := { y with bl := edel BkE.k y.bl n }
def relT (n : Int) (seen : Array Nat) (l : List ThE) : List ThE := l.map fun y => if seen.contains y.b then dropB n y else y
def gath (n : Int) (l : List ThE) : List Int := l.filterMap fun y => (efind BkE.k y.bl n).map fun b => b.x.at_
theorem edel_none {α : Type} {key : α → Int} {k : Int} : ∀ {l : List α}, efind key l k = none → edel key l k = l
  | [], _ => rfl
  | e :: l, h => by
    unfold efind at h
    by_cases hk : k = key e
    · rw [if_pos hk] at h; cases h
    · rw [if_neg hk] at h
      unfold edel
      rw [if_neg hk, edel_none h]
theorem relT_none (n : Int) (l : List ThE) : relT n #[] l = l := by
  unfold relT
  induction l with
  | nil => rfl
  | cons y l ih => rw [List.map_cons, ih]; simp
theorem relT_ent (n : Int) (seen : Array Nat) (l : List ThE) : (relT n seen l).map ThE.ent = l.map ThE.ent := by
  unfold relT
  rw [List.map_map]
  apply List.map_congr_left
  intro y _
  show ThE.ent (if seen.contains y.b then dropB n y else y) = _
  by_cases h : seen.contains y.b
  · rw [if_pos h]; rfl
  · rw [if_neg h]
theorem relT_end {n : Int} {seen : Array Nat} {l : List ThE} (h : leftA ThE.b l seen = []) : relT n seen l = l.map (dropB n) := by
  unfold relT
  apply List.map_congr_left
  intro y hy
  unfold leftA at h
  rw [List.filter_eq_nil_iff] at h
  have := h y hy
  rw [if_pos (by simpa using this)]
theorem relT_step {n : Int} {seen : Array Nat} {l : List ThE} (hn : (l.map ThE.b).Nodup) {y : ThE} (hy : y ∈ leftA ThE.b l seen) : ∃ l1 l2, relT n seen l = l1 ++ y :: l2 ∧ relT n (seen.push y.b) l = l1 ++ dropB n y :: l2 := by
  obtain ⟨h1, h2⟩ := List.mem_filter.1 hy
  obtain ⟨a, b, rfl⟩ := List.append_of_mem h1
  have h3 : seen.contains y.b = false := by simpa using h2
  rw [List.map_append, List.map_cons, List.nodup_append] at hn
  obtain ⟨-, n2, n3⟩ := hn
  rw [List.nodup_cons] at n2
  have e1 : ∀ z ∈ a, z.b ≠ y.b := fun z hz => n3 z.b (List.mem_map_of_mem hz) y.b (by simp)
  have e2 : ∀ z ∈ b, z.b ≠ y.b := fun z hz e => n2.1 (by rw [← e]; exact List.mem_map_of_mem hz)
  have k : ∀ z : ThE, z.b ≠ y.b → (if (seen.push y.b).contains z.b then dropB n z else z) = (if seen.contains z.b then dropB n z else z) := by
    intro z hz
    have : (seen.push y.b).contains z.b = seen.contains z.b := by
      rw [contains_push]
      have : (z.b == y.b) = false := beq_eq_false_iff_ne.2 hz
      rw [this]
      cases seen.contains z.b <;> rfl
    rw [this]
  refine ⟨relT n seen a, relT n seen b, ?_, ?_⟩
  · unfold relT
    rw [List.map_append, List.map_cons, h3]
    simp
  · unfold relT
    rw [List.map_append, List.map_cons]
    have hc : (seen.push y.b).contains y.b = true := by rw [contains_push]; simp
    rw [if_pos hc]
    rw [List.map_congr_left (fun z hz => k z (e1 z hz)), List.map_congr_left (l := b) (fun z hz => k z (e2 z hz))]
theorem gath_no {n : Int} {y : ThE} {vis : List ThE} (h : efind BkE.k y.bl n = none) : gath n (vis ++ [y]) = gath n vis := by
  unfold gath
  rw [List.filterMap_append, List.filterMap_cons, h]
  simp
theorem gath_so {n : Int} {y : ThE} {b : BkE} {vis : List ThE} (h : efind BkE.k y.bl n = some b) : gath n (vis ++ [y]) = gath n vis ++ [b.x.at_] := by
  unfold gath
  rw [List.filterMap_append, List.filterMap_cons, h]
  simp
theorem dropB_no {n : Int} {y : ThE} (h : efind BkE.k y.bl n = none) : dropB n y = y := by
  unfold dropB
  rw [edel_none h]
def RelE (s : Nat) (t : Ts) (a : Nat) (L : List Rg) (Y : Res) (B : Nat) (w : World) (n : Int) (e : Ending) (w' : World) : Prop := match efind MdE.k t.ml n with
  | none => e = .returned (.int .i64 170) ∧ Has B w w' (Tl s t (Star (Sp a L) Y))
  | some x => if x.x.st = true then e = .returned (.int .i64 172) ∧ Has B w w' (Tl s t (Star (Sp a L) Y)) else e = .returned (.int .i64 0) ∧ ∃ az, az.Perm (gath n t.tl) ∧ Has B w w' (Tl s { t with tl := t.tl.map (dropB n), ml := edel MdE.k t.ml n } (Star (Sp a (unmapsS L az)) Y))
set_option maxRecDepth 100000 in
set_option maxHeartbeats 4000000 in
theorem trel_any {B : Nat} {w wr : World} {Y : Res} [hY : Fr Y] {s a : Nat} {t : Ts} {L : List Rg} (h : Has B w wr (Tl s t (Star (Sp a L) Y))) (hg : TsGood t) (n : Int) : Calls Tryz.prog 10 #[.pointer (some ⟨s, 0, none⟩), .pointer (some ⟨a, 0, none⟩), .int .i64 n] wr (RelE s t a L Y B w n) := by
  have M0 := Lib.hid h
  have HG := Lib.hid hg
  have s0 : wr.cell? ⟨s, 0, none⟩ = some (.map (some t.gm)) := M0.out.cellat s 0 rfl
  have hmg := mget_efind (ent := MdE.ent) (key := MdE.k) (fun _ => rfl) n t.ml
  clear h hg
  cases hf : efind MdE.k t.ml n with
  | none =>
    rw [hf] at hmg
    have hv : (mget (t.ml.map MdE.ent) n).getD (.agg #[.int .i64 0, .int .i64 0, .slice none 0 0, .bool false, .int .i64 0]) = .agg #[.int .i64 0, .int .i64 0, .slice none 0 0, .bool false, .int .i64 0] := by rw [hmg]; rfl
    have hb : (mget (t.ml.map MdE.ent) n).isSome = false := by rw [hmg]; rfl
    have HE : Hid (∀ w', Has B w w' (Tl s t (Star (Sp a L) Y)) → RelE s t a L Y B w n (.returned (.int .i64 170)) w') := Lib.hid (fun w' hh => by unfold RelE; rw [hf]; exact ⟨rfl, hh⟩)
    have Na := Lib.hid (M0.out.newcel 62 #[.int .i64 0, .int .i64 0, .slice none 0 0, .bool false, .int .i64 0])
    have Nb := Lib.hid ((Na.out.rowc wr.heap.size #[.int .i64 0, .int .i64 0, .slice none 0 0, .bool false, .int .i64 0]).norm (Tl s t (Star (Sp a L) Y)))
    clear hmg hf
    go_enter Tryz.func10, Tryz.ntmps10
    go_wp2_with (first | (refine wpList_mlookR rfl 52 3 62 _ _ rfl Tryz.underlying52 Tryz.underlying3 t.gm _ _ rfl n rfl (M0.out.getm t.gm) (.agg #[.int .i64 0, .int .i64 0, .slice none 0 0, .bool false, .int .i64 0]) z_mod (.agg #[.int .i64 0, .int .i64 0, .slice none 0 0, .bool false, .int .i64 0]) false hv hb ?_) | (refine wpList_store_row rfl 62 _ _ rfl wr.heap.size #[.int .i64 0, .int .i64 0, .slice none 0 0, .bool false, .int .i64 0] rfl rfl 62 #[.int .i64 0, .int .i64 0, .slice none 0 0, .bool false, .int .i64 0] (Na.out.getc wr.heap.size) (by kernel_rfl) rfl (by kernel_rfl) ?_))
    go_ret
    exact HE.out _ Nb.out
  | some x =>
    rw [hf] at hmg
    obtain ⟨m1, m2, hl, hdel, hkx, -⟩ := efind_split hf
    have hv : (mget (t.ml.map MdE.ent) n).getD (.agg #[.int .i64 0, .int .i64 0, .slice none 0 0, .bool false, .int .i64 0]) = .agg (mdA x.x x.v) := by rw [hmg]; rfl
    have hb : (mget (t.ml.map MdE.ent) n).isSome = true := by rw [hmg]; rfl
    obtain ⟨xA, xc, hxv, -, -⟩ := (Tl.tmpl M0.out hl).src
    have HXV := Lib.hid hxv
    clear hxv
    have Na := Lib.hid (M0.out.newcel 62 #[.int .i64 0, .int .i64 0, .slice none 0 0, .bool false, .int .i64 0])
    have Nb := Lib.hid (Na.out.rowc wr.heap.size (mdA x.x x.v))
    cases hst : x.x.st with
    | true =>
      have x3 : ((wr.alloc (.cells #[.int .i64 0, .int .i64 0, .slice none 0 0, .bool false, .int .i64 0] 62)).setRow wr.heap.size (mdA x.x x.v)).cell? ⟨wr.heap.size, 3, none⟩ = some (.bool true) := by rw [← hst]; exact Nb.out.cellat wr.heap.size 3 rfl
      have HE : Hid (∀ w', Has B w w' (Tl s t (Star (Sp a L) Y)) → RelE s t a L Y B w n (.returned (.int .i64 172)) w') := Lib.hid (fun w' hh => by unfold RelE; rw [hf]; dsimp only; rw [if_pos hst]; exact ⟨rfl, hh⟩)
      have Nc := Lib.hid (Nb.out.norm (Tl s t (Star (Sp a L) Y)))
      clear hmg hf hst hl hdel hkx
      go_enter Tryz.func10, Tryz.ntmps10
      go_wp2_with (first | (refine wpList_mlookR rfl 52 3 62 _ _ rfl Tryz.underlying52 Tryz.underlying3 t.gm _ _ rfl n rfl (M0.out.getm t.gm) (.agg #[.int .i64 0, .int .i64 0, .slice none 0 0, .bool false, .int .i64 0]) z_mod (.agg (mdA x.x x.v)) true hv hb ?_) | (refine wpList_store_row rfl 62 _ _ rfl wr.heap.size (mdA x.x x.v) rfl rfl 62 #[.int .i64 0, .int .i64 0, .slice none 0 0, .bool false, .int .i64 0] (Na.out.getc wr.heap.size) (by kernel_rfl) rfl (mdA_one HXV.out) ?_))
      go_ret
      exact HE.out _ Nc.out
    | false =>
      have HE : Hid (∀ w' az, az.Perm (gath n t.tl) → Has B w w' (Tl s { t with tl := t.tl.map (dropB n), ml := edel MdE.k t.ml n } (Star (Sp a (unmapsS L az)) Y)) → RelE s t a L Y B w n (.returned (.int .i64 0)) w') := Lib.hid (fun w' az hp hh => by unfold RelE; rw [hf]; dsimp only; rw [hst, if_neg (by decide)]; exact ⟨rfl, az, hp, hh⟩)
      have HST := Lib.hid hst
      have HL := Lib.hid hl
      have HDL := Lib.hid hdel
      have HMD := Lib.hid (mdel_edel (ent := MdE.ent) (key := MdE.k) (fun _ => rfl) n t.ml)
      clear hmg hf hst hl hdel hkx
      go_enter Tryz.func10, Tryz.ntmps10
      go_upto_region 2 with (first | (refine wpList_mlookR rfl 52 3 62 _ _ rfl Tryz.underlying52 Tryz.underlying3 t.gm _ _ rfl n rfl (M0.out.getm t.gm) (.agg #[.int .i64 0, .int .i64 0, .slice none 0 0, .bool false, .int .i64 0]) z_mod (.agg (mdA x.x x.v)) true hv hb ?_) | (refine wpList_store_row rfl 62 _ _ rfl wr.heap.size (mdA x.x x.v) rfl rfl 62 #[.int .i64 0, .int .i64 0, .slice none 0 0, .bool false, .int .i64 0] (Na.out.getc wr.heap.size) (by kernel_rfl) rfl (mdA_one HXV.out) ?_))
      obtain ⟨W1, hW⟩ : ∃ W1, (wr.alloc (.cells #[.int .i64 0, .int .i64 0, .slice none 0 0, .bool false, .int .i64 0] 62)).setRow wr.heap.size (mdA x.x x.v) = W1 := ⟨_, rfl⟩
      rw [hW] at Nb ⊢
      clear hW Na s0 M0
      generalize wr.heap.size = x7 at Nb ⊢
      have x73 : W1.cell? ⟨x7, 3, none⟩ = some (.bool false) := by rw [← HST.out]; exact Nb.out.cellat x7 3 rfl
      have s2 : W1.cell? ⟨s, 2, none⟩ = some (.map (some t.gt)) := Nb.out.cellat s 2 rfl
      have Ma := Lib.hid (Nb.out.newitr t.gt t.tc)
      go_upto_region 7 with (first | (refine wpList_mrange rfl 54 3 66 _ rfl Tryz.underlying54 t.gt (t.tl.map ThE.ent) t.tc rfl (Nb.out.getm t.gt) ?_))
      obtain ⟨W2, hW⟩ : ∃ W2, W1.alloc (.mapIter (some t.gt) t.tc #[] t.tc) = W2 := ⟨_, rfl⟩
      rw [hW] at Ma ⊢
      clear hW
      generalize W1.heap.size = it at Ma ⊢
      have M2 : Hid (Has B w W2 (Star (Itr it t.gt t.tc #[] t.tc) (TlX s t (relT n #[] t.tl) (Star (Sp a (unmapsS L (gath n []))) Y)))) := Lib.hid (by
        rw [relT_none]
        exact Ma.out.norm (Star (Itr it t.gt t.tc #[] t.tc) (Tl s t (Star (Sp a L) Y))))
      clear Ma Nb x73 s2
      simp only [Act.put, List.setIfInBounds_toArray, List.set_cons_succ, List.set_cons_zero]
      go_loopw [] (fun wr => ∃ (seen : Array Nat) (vis : List ThE), Hid ((vis ++ leftA ThE.b t.tl seen).Perm t.tl) ∧ Hid (Has B w wr (Star (Itr it t.gt t.tc seen t.tc) (TlX s t (relT n seen t.tl) (Star (Sp a (unmapsS L (gath n vis))) Y))))) (fun wr => (leftA ThE.b t.tl (wr.iterSeen it)).length)
      case atStart => exact ⟨#[], [], Lib.hid (by rw [leftA_none]; exact List.Perm.refl _), M2⟩
      case round =>
        clear M2
        obtain ⟨seen, vis, HPM, M8⟩ := hrel
        obtain ⟨w8, hw8⟩ : ∃ w8, w8 = wr := ⟨_, rfl⟩
        rw [← hw8] at M8 ⊢
        clear hw8
        rcases run_mnextA (P := Tryz.prog) (ent := ThE.ent) (key := ThE.k) (val := fun y => .agg (thA y.tp y.g)) (st := ThE.b) (fun _ => rfl) M8.out.itr (M8.out.getm t.gt) HG.out.gdt.past (Nat.le_refl _) with ⟨hD, hr⟩ | ⟨y, hy, w9, hr, hi9, hk9⟩
        · have HD := Lib.hid hD
          clear hD
          have sa : w8.cell? ⟨s, 0, none⟩ = some (.map (some t.gm)) := M8.out.cellat s 0 rfl
          have Mb := Lib.hid (M8.out.setm t.gm (mdel (t.ml.map MdE.ent) n) t.mc)
          have MZ : Hid (Has B w (World.putO w8 t.gm (.map ((mdel (t.ml.map MdE.ent) n).map entM).toArray t.mc)) (Tl s { t with tl := t.tl.map (dropB n), ml := edel MdE.k t.ml n } (Star (Sp a (unmapsS L (gath n vis))) Y))) := Lib.hid (by
            have h1 := Mb.out
            rw [relT_end HD.out] at h1
            have h2 := HMD.out
            rw [h2] at h1 ⊢
            have h3 := h1.norm (Star (All mdR t.ml) (Star (Cel s 56 t.arr) (Star (Mp t.gm ((edel MdE.k t.ml n).map MdE.ent) t.mc) (Star (Mp t.gg (t.gl.map GnE.ent) t.gc) (Star (Mp t.gt (t.tl.map ThE.ent) t.tc) (Star (All thR (t.tl.map (dropB n))) (Star (Sp a (unmapsS L (gath n vis))) Y)))))))
            have h4 := h3.imp (fun F => all_out_of HL.out)
            rw [← HDL.out] at h4
            have h5 : (t.tl.map (dropB n)).map ThE.ent = t.tl.map ThE.ent := by rw [List.map_map]; rfl
            show Has B w _ (Star (Cel s 56 t.arr) (Star (Mp t.gm ((edel MdE.k t.ml n).map MdE.ent) t.mc) (Star (Mp t.gg (t.gl.map GnE.ent) t.gc) (Star (Mp t.gt ((t.tl.map (dropB n)).map ThE.ent) t.tc) (Star (All mdR (edel MdE.k t.ml n)) (Star (All thR (t.tl.map (dropB n))) (Star (Sp a (unmapsS L (gath n vis))) Y)))))))
            rw [h5]
            exact h4.norm _)
          have HP2 : Hid ((gath n vis).Perm (gath n t.tl)) := Lib.hid (by
            have h1 := HPM.out
            rw [HD.out, List.append_nil] at h1
            exact h1.filterMap _)
          clear Mb
          go_wp2_with (first | (refine wpList_next0 rfl _ rfl it rfl hr ?_) | (refine wpList_mdel rfl 52 3 62 _ _ _ rfl Tryz.underlying52 Tryz.underlying3 t.gm _ t.mc rfl n rfl (M8.out.getm t.gm) ?_))
          go_ret
          exact HE.out _ _ HP2.out MZ.out
        · have hnd : (t.tl.map ThE.b).Nodup := by have := HG.out.gdt.born; rw [List.map_map] at this; exact this
          have M9 := Lib.hid (M8.out.stepitr hi9 hk9)
          have HLP := Lib.hid (leftA_push (st := ThE.b) hnd hy)
          obtain ⟨l1, l2, hr1, hr2⟩ := relT_step (n := n) hnd hy
          have HR2 := Lib.hid hr2
          have HSZ := Lib.hid M8.out.iseen
          have HYB := Lib.hid (List.mem_filter.1 hy).1
          have M9b := Lib.hid (M9.out.norm (TlX s t (relT n seen t.tl) (Star (Itr it t.gt t.tc (seen.push y.b) t.tc) (Star (Sp a (unmapsS L (gath n vis))) Y))))
          have M9c := Lib.hid (TlX.take M9b.out hr1)
          have Na := Lib.hid (M9c.out.newcel 66 #[.int .i64 0, .map none])
          have Nb := Lib.hid (Na.out.rowc w9.heap.size (thA y.tp y.g))
          have HPF : Hid (((vis ++ [y]) ++ leftA ThE.b t.tl (seen.push y.b)).Perm t.tl) := Lib.hid (by
            refine List.Perm.trans ?_ HPM.out
            rw [List.append_assoc]
            exact (HLP.out.symm.append_left vis))
          clear hy hnd hr1 hr2 M9b
          go_upto_region 9 with (first | (refine wpList_next0 rfl _ rfl it rfl hr ?_) | (refine wpList_mentryA (ent := ThE.ent) (key := ThE.k) (val := fun y => .agg (thA y.tp y.g)) (st := ThE.b) (fun _ => rfl) rfl _ rfl it t.gt t.tc t.tc seen t.tl y rfl M9.out.itr (M9.out.getm t.gt) HYB.out HG.out.gdt.born ?_) | (refine wpList_store_row rfl 66 _ _ rfl w9.heap.size (thA y.tp y.g) rfl rfl 66 #[.int .i64 0, .map none] (Na.out.getc w9.heap.size) (by kernel_rfl) rfl (by kernel_rfl) ?_))
          obtain ⟨W3, hW⟩ : ∃ W3, (w9.alloc (.cells #[.int .i64 0, .map none] 66)).setRow w9.heap.size (thA y.tp y.g) = W3 := ⟨_, rfl⟩
          rw [hW] at Nb ⊢
          clear hW Na hr M9 M9c
          generalize w9.heap.size = x10 at Nb ⊢
          have y1 : W3.cell? ⟨x10, 1, none⟩ = some (.map (some y.g)) := Nb.out.cellat x10 1 rfl
          have hmg := mget_efind (ent := BkE.ent) (key := BkE.k) (fun _ => rfl) n y.bl
          have Oa := Lib.hid (Nb.out.newcel 69 #[.int .i64 0, .int .i64 0, .int .i64 0, .int .i64 0])
          have GIVE : Hid (∀ (wa : World) (vs : List ThE) (ys : ThE), ys = dropB n y → Has B w wa (Star (Mp ys.g (ys.bl.map BkE.ent) ys.c) (TlX s t (l1 ++ l2) (Star (Itr it t.gt t.tc (seen.push y.b) t.tc) (Star (Sp a (unmapsS L (gath n vs))) Y)))) → Has B w wa (Star (Itr it t.gt t.tc (seen.push y.b) t.tc) (TlX s t (relT n (seen.push y.b) t.tl) (Star (Sp a (unmapsS L (gath n vs))) Y)))) := Lib.hid (by
            intro wa vs ys he hh
            subst he
            have h1 := Tl.give hh
            rw [← HR2.out] at h1
            exact h1.norm _)
          have HMS : Hid (∀ (wa : World) (vs : List ThE), Has B w wa (Star (Itr it t.gt t.tc (seen.push y.b) t.tc) (TlX s t (relT n (seen.push y.b) t.tl) (Star (Sp a (unmapsS L (gath n vs))) Y))) → (leftA ThE.b t.tl (wa.iterSeen it)).length < (leftA ThE.b t.tl (w8.iterSeen it)).length) := Lib.hid (by
            intro wa vs hh
            rw [hh.iseen, HSZ.out]
            have := HLP.out.length_eq
            simp only [List.length_cons] at this
            omega)
          cases hf2 : efind BkE.k y.bl n with
          | none =>
            rw [hf2] at hmg
            have hv2 : (mget (y.bl.map BkE.ent) n).getD (.agg #[.int .i64 0, .int .i64 0, .int .i64 0, .int .i64 0]) = .agg #[.int .i64 0, .int .i64 0, .int .i64 0, .int .i64 0] := by rw [hmg]; rfl
            have hb2 : (mget (y.bl.map BkE.ent) n).isSome = false := by rw [hmg]; rfl
            have Ob := Lib.hid (Oa.out.rowc W3.heap.size #[.int .i64 0, .int .i64 0, .int .i64 0, .int .i64 0])
            have Mb := Lib.hid (GIVE.out _ (vis ++ [y]) y (dropB_no hf2).symm (by rw [gath_no hf2]; exact Ob.out.norm _))
            have HM := Lib.hid (HMS.out _ (vis ++ [y]) Mb.out)
            clear hmg hf2
            go_wp2_with (first | (refine wpList_mlookR rfl 64 3 69 _ _ rfl Tryz.underlying64 Tryz.underlying3 y.g _ _ rfl n rfl (Nb.out.getm y.g) (.agg #[.int .i64 0, .int .i64 0, .int .i64 0, .int .i64 0]) z_blk (.agg #[.int .i64 0, .int .i64 0, .int .i64 0, .int .i64 0]) false hv2 hb2 ?_) | (refine wpList_store_row rfl 69 _ _ rfl W3.heap.size #[.int .i64 0, .int .i64 0, .int .i64 0, .int .i64 0] rfl rfl 69 #[.int .i64 0, .int .i64 0, .int .i64 0, .int .i64 0] (Oa.out.getc W3.heap.size) (by kernel_rfl) rfl (by kernel_rfl) ?_))
            first
              | (go_roundw
                 case rel => exact ⟨_, _, HPF, Mb⟩
                 case measure => exact HM.out)
              | (refine ⟨?_, ?_⟩
                 · (repeat apply Exists.intro)
                   refine ⟨?_, rfl⟩
                   exact ⟨_, _, HPF, Mb⟩
                 · exact HM.out)
              | exact ⟨⟨_, _, HPF, Mb⟩, HM.out⟩
          | some b =>
            rw [hf2] at hmg
            have hv2 : (mget (y.bl.map BkE.ent) n).getD (.agg #[.int .i64 0, .int .i64 0, .int .i64 0, .int .i64 0]) = .agg (bkA b.x) := by rw [hmg]; rfl
            have hb2 : (mget (y.bl.map BkE.ent) n).isSome = true := by rw [hmg]; rfl
            have Ob := Lib.hid (Oa.out.rowc W3.heap.size (bkA b.x))
            have HGA := Lib.hid (gath_so (vis := vis) hf2)
            have HMD2 := Lib.hid (mdel_edel (ent := BkE.ent) (key := BkE.k) (fun _ => rfl) n y.bl)
            clear hmg hf2
            go_upto_region 11 with (first | (refine wpList_mlookR rfl 64 3 69 _ _ rfl Tryz.underlying64 Tryz.underlying3 y.g _ _ rfl n rfl (Nb.out.getm y.g) (.agg #[.int .i64 0, .int .i64 0, .int .i64 0, .int .i64 0]) z_blk (.agg (bkA b.x)) true hv2 hb2 ?_) | (refine wpList_store_row rfl 69 _ _ rfl W3.heap.size (bkA b.x) rfl rfl 69 #[.int .i64 0, .int .i64 0, .int .i64 0, .int .i64 0] (Oa.out.getc W3.heap.size) (by kernel_rfl) rfl (by kernel_rfl) ?_))
            obtain ⟨W4, hW⟩ : ∃ W4, (W3.alloc (.cells #[.int .i64 0, .int .i64 0, .int .i64 0, .int .i64 0] 69)).setRow W3.heap.size (bkA b.x) = W4 := ⟨_, rfl⟩
            rw [hW] at Ob ⊢
            clear hW Oa Nb y1
            generalize W3.heap.size = x11 at Ob ⊢
            have y2 : W4.cell? ⟨x11, 2, none⟩ = some (.int .i64 b.x.at_) := Ob.out.cellat x11 2 rfl
            have C2 := Lib.hid (own_unmap (Ob.out.pick (Sp a (unmapsS L (gath n vis)))) b.x.at_)
            go_wp2_with fail
            refine (C2.out).mono ?_
            rintro e wa ⟨rfl, m⟩
            have Ma := Lib.hid (m.norm (Star (Cel x10 66 (thA y.tp y.g)) (Star (Mp y.g (y.bl.map BkE.ent) y.c) (TlX s t (l1 ++ l2) (Star (Itr it t.gt t.tc (seen.push y.b) t.tc) (Star (Sp a (unmapS (unmapsS L (gath n vis)) b.x.at_).1) Y))))))
            have y3 : wa.cell? ⟨x10, 1, none⟩ = some (.map (some y.g)) := Ma.out.cellat x10 1 rfl
            have Mc := Lib.hid (Ma.out.setm y.g (mdel (y.bl.map BkE.ent) n) y.c)
            have Mb := Lib.hid (GIVE.out (World.putO wa y.g (.map ((mdel (y.bl.map BkE.ent) n).map entM).toArray y.c)) (vis ++ [y]) (dropB n y) rfl (by
              rw [HGA.out, unmapsS_snoc]
              have h1 := Mc.out
              have h9 := HMD2.out
              rw [h9] at h1 ⊢
              exact h1.norm (Star (Mp y.g ((edel BkE.k y.bl n).map BkE.ent) y.c) (TlX s t (l1 ++ l2) (Star (Itr it t.gt t.tc (seen.push y.b) t.tc) (Star (Sp a (unmapS (unmapsS L (gath n vis)) b.x.at_).1) Y))))))
            have HM := Lib.hid (HMS.out _ (vis ++ [y]) Mb.out)
            clear m C2 y2 Ob Mc
            go_wp2_with (first | (refine wpList_mdel rfl 64 3 69 _ _ _ rfl Tryz.underlying64 Tryz.underlying3 y.g _ y.c rfl n rfl (Ma.out.getm y.g) ?_))
            first
              | (go_roundw
                 case rel => exact ⟨_, _, HPF, Mb⟩
                 case measure => exact HM.out)
              | (refine ⟨?_, ?_⟩
                 · (repeat apply Exists.intro)
                   refine ⟨?_, rfl⟩
                   exact ⟨_, _, HPF, Mb⟩
                 · exact HM.out)
              | exact ⟨⟨_, _, HPF, Mb⟩, HM.out⟩
end Go.Proofs.YtpenejigebkkmaaGreat
