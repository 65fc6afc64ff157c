/-
  Layer 17: tls.Blocks, the walk.
  Conditions: none. (My own text.)
-/
import Derived.Test.YtpenejigebkkmaaGreatTgd
namespace Go.Proofs.YtpenejigebkkmaaGreat
open Go.RowKit Spm
set_option linter.unusedVariables false
set_option linter.unusedSimpArgs false
attribute [local irreducible] wpList

theorem Has.ints {B : Nat} {w wr w' : World} {X : Res} [Fr X] (h : Has B w wr X) {v : Value} {l : List Int} (ho : w'.ownsRow wr.heap.size 3 1 v l.length (l.map (Value.int .i64))) (hb : Below wr.heap.size wr w') : Has B w w' (Star (Ks v l) X) :=
  h.add hb ⟨bys_low ho (Nat.zero_le _), fun g hg => (ho.lt g hg).1⟩
theorem Has.blks {B : Nat} {w wr w' : World} {X : Res} [Fr X] (h : Has B w wr X) {v : Value} {l : List Bk} (ho : w'.ownsRow wr.heap.size 69 4 v l.length (l.flatMap bkC)) (hb : Below wr.heap.size wr w') : Has B w w' (Star (Bks v l) X) :=
  h.add hb ⟨bys_low ho (Nat.zero_le _), fun g hg => (ho.lt g hg).1⟩
theorem Has.bksOwn {B : Nat} {w wr : World} {X : Res} {v : Value} {l : List Bk} (h : Has B w wr (Star (Bks v l) X)) : wr.ownsRow B 69 4 v l.length (l.flatMap bkC) := by
  obtain ⟨F, ⟨F1, F2, h1, h2, hd, g1, g2⟩, h3⟩ := h.own
  exact owns_raise h1.1 (fun g hg => h3 g (g1 g (h1.2 g hg)))
theorem Has.bksOwn1 {B : Nat} {w wr : World} {v : Value} {l : List Bk} (h : Has B w wr (Bks v l)) : wr.ownsRow B 69 4 v l.length (l.flatMap bkC) := by
  obtain ⟨F, h1, h3⟩ := h.own
  exact owns_raise h1.1 (fun g hg => h3 g (h1.2 g hg))
theorem Has.ofBks {B : Nat} {w wr : World} {v : Value} {l : List Bk} (ho : wr.ownsRow B 69 4 v l.length (l.flatMap bkC)) (hb : Below B w wr) (hle : B ≤ wr.heap.size) : Has B w wr (Star (Bks v l) Emp) :=
  ⟨⟨fun k => B ≤ k, ⟨fun k => B ≤ k, fun _ => False, ⟨bys_low ho (Nat.zero_le _), fun g hg => (ho.lt g hg).1⟩, trivial, fun _ _ h => h, fun _ h => h, fun _ h => h.elim⟩, fun _ h => h⟩, hb, hle⟩
def BlksE (s : Nat) (t : Ts) (Y : Res) (B : Nat) (w : World) (id : Int) (e : Ending) (w' : World) : Prop := ∃ v, e = .returned v ∧ Has B w w' (Star (Bks v (blksS t id)) (Tl s t Y))
set_option maxRecDepth 100000 in
set_option maxHeartbeats 4000000 in
theorem tblocks_any {B : Nat} {w wr : World} {Y : Res} [hY : Fr Y] {s : Nat} {t : Ts} (h : Has B w wr (Tl s t Y)) (hg : TsGood t) (hn : MdsNum t.ml) (id : Int) : Calls Tryz.prog 39 #[.pointer (some ⟨s, 0, none⟩), .int .i64 id] wr (BlksE s t Y B w id) := by
  have M0 := Lib.hid h
  have HG := Lib.hid hg
  have HN := Lib.hid hn
  have hlen := hn.len
  have s2 : wr.cell? ⟨s, 2, none⟩ = some (.map (some t.gt)) := M0.out.cellat s 2 rfl
  have hmg := mget_efind (ent := ThE.ent) (key := ThE.k) (fun _ => rfl) id t.tl
  clear h hg hn
  cases hf : efind ThE.k t.tl id with
  | none =>
    rw [hf] at hmg
    have hv : (mget (t.tl.map ThE.ent) id).getD (.agg #[.int .i64 0, .map none]) = .agg #[.int .i64 0, .map none] := by rw [hmg]; rfl
    have hb : (mget (t.tl.map ThE.ent) id).isSome = false := by rw [hmg]; rfl
    have Na := Lib.hid (M0.out.newcel 66 #[.int .i64 0, .map none])
    have Nb := Lib.hid ((Na.out.rowc wr.heap.size #[.int .i64 0, .map none]).norm (Tl s t Y))
    have HE : Hid (∀ w', Has B w w' (Tl s t Y) → BlksE s t Y B w id (.returned (.slice none 0 0)) w') := Lib.hid (fun w' hh => ⟨_, rfl, by
      unfold blksS
      rw [hf]
      exact hh.add (Below.refl _ _) ⟨World.ownsRow_nil _ _ _ _, fun g hg => by cases hg⟩⟩)
    clear hmg hf
    go_enter Tryz.func39, Tryz.ntmps39
    go_wp2_with (first | (refine wpList_mlookR rfl 54 3 66 _ _ rfl Tryz.underlying54 Tryz.underlying3 t.gt _ _ rfl id rfl (M0.out.getm t.gt) (.agg #[.int .i64 0, .map none]) z_thr (.agg #[.int .i64 0, .map none]) false hv hb ?_) | (refine wpList_store_row rfl 66 _ _ rfl wr.heap.size #[.int .i64 0, .map none] rfl rfl 66 #[.int .i64 0, .map none] (Na.out.getc wr.heap.size) (by kernel_rfl) rfl (by kernel_rfl) ?_))
    go_ret
    exact HE.out _ Nb.out
  | some x =>
    rw [hf] at hmg
    obtain ⟨l1, l2, hl, -, hkx, -⟩ := efind_split hf
    have hv : (mget (t.tl.map ThE.ent) id).getD (.agg #[.int .i64 0, .map none]) = .agg (thA x.tp x.g) := by rw [hmg]; rfl
    have hb : (mget (t.tl.map ThE.ent) id).isSome = true := by rw [hmg]; rfl
    have M1 := Lib.hid (Tl.take M0.out hl)
    have Na := Lib.hid (M1.out.newcel 66 #[.int .i64 0, .map none])
    have Nb := Lib.hid (Na.out.rowc wr.heap.size (thA x.tp x.g))
    have HL := Lib.hid hl
    have HE : Hid (∀ v w', Has B w w' (Star (Bks v ((keysS t).filterMap (blk1 t.ml x))) (Tl s t Y)) → BlksE s t Y B w id (.returned v) w') := Lib.hid (fun v w' hh => ⟨_, rfl, by unfold blksS; rw [hf]; exact hh⟩)
    clear hmg hf hl hkx
    go_enter Tryz.func39, Tryz.ntmps39
    go_upto_region 2 with (first | (refine wpList_mlookR rfl 54 3 66 _ _ rfl Tryz.underlying54 Tryz.underlying3 t.gt _ _ rfl id rfl (M0.out.getm t.gt) (.agg #[.int .i64 0, .map none]) z_thr (.agg (thA x.tp x.g)) true hv hb ?_) | (refine wpList_store_row rfl 66 _ _ rfl wr.heap.size (thA x.tp x.g) rfl rfl 66 #[.int .i64 0, .map none] (Na.out.getc wr.heap.size) (by kernel_rfl) rfl (by kernel_rfl) ?_))
    obtain ⟨W1, hW⟩ : ∃ W1, (wr.alloc (.cells #[.int .i64 0, .map none] 66)).setRow wr.heap.size (thA x.tp x.g) = W1 := ⟨_, rfl⟩
    rw [hW] at Nb ⊢
    clear hW Na s2 M0 M1 hv hb
    generalize wr.heap.size = x5 at Nb ⊢
    have s0 : W1.cell? ⟨s, 0, none⟩ = some (.map (some t.gm)) := Nb.out.cellat s 0 rfl
    have hwf : ∀ e ∈ t.ml.map MdE.ent, (Lit.int .i64 e.1).wf = true := fun e he => by
      obtain ⟨m, hm, rfl⟩ := List.mem_map.1 he
      have h1 := HN.out.lo m hm
      have h2 := HN.out.hi m hm
      show (Lit.int .i64 m.k).wf = true
      simp [Lit.wf, IntKind.min, IntKind.max, IntKind.signed, IntKind.bits]
      omega
    have C2 := Lib.hid (tsorted_any (Nb.out.getm t.gm) HG.out.gdm (by rw [List.length_map]; omega) hwf)
    go_wp2_with fail
    refine (tkeys_any t.gm W1).mono ?_
    rintro e w3 ⟨rfl, rfl⟩
    go_wp2_with fail
    refine (C2.out).mono ?_
    rintro e W4 ⟨kv, rfl, hrow, hb4⟩
    have hks : ((t.ml.map MdE.ent).map (·.1)).mergeSort leI = keysS t := by unfold keysS; rw [List.map_map]; rfl
    rw [hks, List.length_map, ← keysS_len] at hrow
    have M4 : Hid (Has B w W4 (Star (Ks kv (keysS t)) (Star (Cel x5 66 (thA x.tp x.g)) (Star (Mp x.g (x.bl.map BkE.ent) x.c) (TlX s t (l1 ++ l2) Y))))) := Lib.hid (by
      have h1 := Nb.out.stay (((Below.refl _ W1).alloc (Nat.le_refl _) _).trans (hb4.mono (by simp)))
      have h2 := Nb.out.newcel 52 #[.map (some t.gm)]
      exact ((h2.ints (by simpa using hrow) (by simpa using hb4)).norm (Star (Ks kv (keysS t)) (Star (Cel x5 66 (thA x.tp x.g)) (Star (Mp x.g (x.bl.map BkE.ent) x.c) (TlX s t (l1 ++ l2) Y))))))
    clear hrow hb4 hks C2 s0 Nb hwf
    obtain ⟨F4, hF4, -⟩ := M4.out.own
    obtain ⟨FK, -, hFK, -⟩ := hF4
    obtain ⟨kA, kc, hkv, hkc, -⟩ := hFK.src
    subst hkv
    clear hFK
    obtain ⟨i0, hi, hz0, hz1, hz2⟩ := info_parts blk_info
    have HI := Lib.hid (And.intro hi (And.intro hz0 (And.intro hz1 hz2)))
    have hkl := keysS_len t
    clear hi hz0 hz1 hz2
    generalize W1.heap.size = x28
    go_wp2_with fail
    go_loopw [7, 31] (fun v i wr => ∃ k : Nat, k ≤ (keysS t).length ∧ i = .int .i64 k ∧ Hid (Has W4.heap.size W4 wr (Star (Bks v (((keysS t).take k).filterMap (blk1 t.ml x))) Emp))) (fun _ i _ => (keysS t).length - (intOf i).toNat)
    case atStart => exact ⟨0, Nat.zero_le _, rfl, Lib.hid (Has.ofBks (World.ownsRow_nil _ _ _ _) (Below.refl _ _) (Nat.le_refl _))⟩
    case round =>
      obtain ⟨k, hk, rfl, hM⟩ := hrel
      have M5 := Lib.hid (M4.out.stay hM.out.bel)
      by_cases hlt : k < (keysS t).length
      · obtain ⟨n, hnk⟩ : ∃ n, (keysS t)[k]? = some n := ⟨_, List.getElem?_eq_getElem hlt⟩
        obtain ⟨F5, hF5, -⟩ := M5.out.own
        obtain ⟨FK, -, hFK, -⟩ := hF5
        obtain ⟨kA2, kc2, hkv, -, hcell⟩ := hFK.src
        cases hkv
        obtain ⟨kg, rfl, hcn⟩ := hcell k n hnk
        have s0 : wr.cell? ⟨s, 0, none⟩ = some (.map (some t.gm)) := M5.out.cellat s 0 rfl
        have HSN := Lib.hid (fm_snoc (blk1 t.ml x) (keysS t) k n hnk)
        obtain ⟨m, hm⟩ := efind_key HN.out.nd (keysS_mem.1 (List.mem_of_getElem? hnk))
        have hmg := mget_efind (ent := MdE.ent) (key := MdE.k) (fun _ => rfl) n t.ml
        rw [hm] at hmg
        have hv2 : (mget (t.ml.map MdE.ent) n).getD (.agg #[.int .i64 0, .int .i64 0, .slice none 0 0, .bool false, .int .i64 0]) = .agg (mdA m.x m.v) := by rw [hmg]; rfl
        obtain ⟨m1, m2, hml, -, hky, -⟩ := efind_split hm
        obtain ⟨yA, yc, hyv, -, -⟩ := (Tl.tmpl M5.out.right.right.right hml).src
        have HYV := Lib.hid hyv
        have HFM := Lib.hid hm
        generalize hlk : ((keysS t).take k).filterMap (blk1 t.ml x) = lk at hM HSN
        have hlkl : lk.length ≤ k := by rw [← hlk]; refine Nat.le_trans (fm_len _ _) ?_; rw [List.length_take]; omega
        have Nc := Lib.hid (hM.out.newcel 62 #[.int .i64 0, .int .i64 0, .slice none 0 0, .bool false, .int .i64 0])
        have Nd := Lib.hid (Nc.out.rowc wr.heap.size (mdA m.x m.v))
        clear hmg hm hml hky hyv hFK hcell hlk hnk
        go_upto_region 9 with (first | (refine wpList_mlookV rfl 52 3 62 _ _ rfl Tryz.underlying52 Tryz.underlying3 t.gm _ _ rfl n rfl (M5.out.getm t.gm) (.agg #[.int .i64 0, .int .i64 0, .slice none 0 0, .bool false, .int .i64 0]) z_mod (.agg (mdA m.x m.v)) hv2 ?_) | (refine wpList_store_row rfl 62 _ _ rfl wr.heap.size (mdA m.x m.v) rfl rfl 62 #[.int .i64 0, .int .i64 0, .slice none 0 0, .bool false, .int .i64 0] (Nc.out.getc wr.heap.size) (by kernel_rfl) rfl (mdA_one HYV.out) ?_))
        obtain ⟨W5, hW⟩ : ∃ W5, (wr.alloc (.cells #[.int .i64 0, .int .i64 0, .slice none 0 0, .bool false, .int .i64 0] 62)).setRow wr.heap.size (mdA m.x m.v) = W5 := ⟨_, rfl⟩
        rw [hW] at Nd ⊢
        clear hW Nc s0 hv2 M5 hcn
        generalize wr.heap.size = x10 at Nd ⊢
        have M6 := Lib.hid (M4.out.stay Nd.out.bel)
        cases hst : m.x.st with
        | true =>
          have z3 : W5.cell? ⟨x10, 3, none⟩ = some (.bool true) := by rw [← hst]; exact Nd.out.cellat x10 3 rfl
          have z0 : W5.cell? ⟨x10, 0, none⟩ = some (.int .i64 m.x.gen) := Nd.out.cellat x10 0 rfl
          have z1 : W5.cell? ⟨x10, 1, none⟩ = some (.int .i64 m.x.size) := Nd.out.cellat x10 1 rfl
          have z4 : W5.cell? ⟨x10, 4, none⟩ = some (.int .i64 m.x.bh) := Nd.out.cellat x10 4 rfl
          have y0 : W5.cell? ⟨x5, 0, none⟩ = some (.int .i64 x.tp) := M6.out.cellat x5 0 rfl
          have hb1 : blk1 t.ml x n = some ⟨n, m.x.gen, wrap64 (x.tp + m.x.bh), m.x.size⟩ := by unfold blk1; rw [HFM.out]; dsimp only; rw [if_pos hst]
          rw [hb1] at HSN
          have Ne := Lib.hid (Nd.out.norm (Star (Bks u7 lk) (Star (Cel x10 62 (mdA m.x m.v)) Emp)))
          clear hb1 hst
          go_wp2_with (at_builtin; refine wpList_append_own _ rfl _ _ 92 rfl W4.heap.size 69 i0 (.agg #[.int .i64 0, .int .i64 0, .int .i64 0, .int .i64 0]) 4 32 Tryz.underlying92 HI.out.1 HI.out.2.1 HI.out.2.2.1 HI.out.2.2.2 rfl (by decide) _ lk.length _ rfl (Ne.out.bksOwn.alloc _) ⟨W5.heap.size, 0, none⟩ 1 1 [.int .i64 n, .int .i64 m.x.gen, .int .i64 (wrap64 (x.tp + m.x.bh)), .int .i64 m.x.size] rfl ?c1 ?c2 ?c3 ?c4 ?c5 ?c6 ?_)
          case c1 => rfl
          case c2 =>
            intro j u hj
            rw [Addr.add_lit, World.cell?_alloc_at _ _ _ _ rfl]
            simpa using hj
          case c3 => (intro u hu; simp only [List.mem_cons, List.not_mem_nil, or_false] at hu; rcases hu with rfl | rfl | rfl | rfl <;> rfl)
          case c4 => unfold maxLen; omega
          case c5 => omega
          case c6 => have := Ne.out.bel.size; simp; omega
          intro v' w8 hown1 hgrow _
          have hlt1 := (Ne.out.bksOwn).lt
          have H8 : Hid (Has W4.heap.size W4 w8 (Star (Bks v' (((keysS t).take (k + 1)).filterMap (blk1 t.ml x))) Emp)) := Lib.hid (by
            have hb8 := (Ne.out.bel.alloc Ne.out.le _).grown hgrow (by have := Ne.out.le; simp; omega) (fun j hj => (hlt1 j hj).1)
            refine Has.ofBks ?_ hb8 hb8.size
            rw [HSN.out]
            rw [List.length_append, List.flatMap_append]
            exact hown1)
          clear hown1 hgrow hlt1
          go_wp2
          go_roundw
          case rel => exact ⟨k + 1, by omega, by go_num, H8⟩
          case measure => simp [intOf]; omega
        | false =>
          have z3 : W5.cell? ⟨x10, 3, none⟩ = some (.bool false) := by rw [← hst]; exact Nd.out.cellat x10 3 rfl
          have y1 : W5.cell? ⟨x5, 1, none⟩ = some (.map (some x.g)) := M6.out.cellat x5 1 rfl
          have hb1 : blk1 t.ml x n = (efind BkE.k x.bl n).map (·.x) := by unfold blk1; rw [HFM.out]; dsimp only; rw [if_neg (by rw [hst]; decide)]
          rw [hb1] at HSN
          have hmg := mget_efind (ent := BkE.ent) (key := BkE.k) (fun _ => rfl) n x.bl
          have Nf := Lib.hid (Nd.out.newcel 69 #[.int .i64 0, .int .i64 0, .int .i64 0, .int .i64 0])
          clear hb1 hst
          cases hfb : efind BkE.k x.bl n with
          | some b =>
            rw [hfb] at hmg HSN
            have hv3 : (mget (x.bl.map BkE.ent) n).getD (.agg #[.int .i64 0, .int .i64 0, .int .i64 0, .int .i64 0]) = .agg (bkA b.x) := by rw [hmg]; rfl
            have hb3 : (mget (x.bl.map BkE.ent) n).isSome = true := by rw [hmg]; rfl
            have Ng := Lib.hid (Nf.out.rowc W5.heap.size (bkA b.x))
            clear hmg hfb
            go_upto_region 13 with (first | (refine wpList_mlookR rfl 64 3 69 _ _ rfl Tryz.underlying64 Tryz.underlying3 x.g _ _ rfl n rfl (M6.out.getm x.g) (.agg #[.int .i64 0, .int .i64 0, .int .i64 0, .int .i64 0]) z_blk (.agg (bkA b.x)) true hv3 hb3 ?_) | (refine wpList_store_row rfl 69 _ _ rfl W5.heap.size (bkA b.x) rfl rfl 69 #[.int .i64 0, .int .i64 0, .int .i64 0, .int .i64 0] (Nf.out.getc W5.heap.size) (by kernel_rfl) rfl (by kernel_rfl) ?_))
            obtain ⟨W6, hW⟩ : ∃ W6, (W5.alloc (.cells #[.int .i64 0, .int .i64 0, .int .i64 0, .int .i64 0] 69)).setRow W5.heap.size (bkA b.x) = W6 := ⟨_, rfl⟩
            rw [hW] at Ng ⊢
            clear hW Nf z3 y1 M6 hv3 hb3
            generalize W5.heap.size = x11 at Ng ⊢
            have Nh := Lib.hid (Ng.out.norm (Star (Bks u7 lk) (Star (Cel x11 69 (bkA b.x)) Emp)))
            have hbk : Blk W6 x11 69 #[.int .i64 b.x.md, .int .i64 b.x.gn, .int .i64 b.x.at_, .int .i64 b.x.sz] := Ng.out.getc x11
            go_wp2_with (first | (refine wpList_rowW (by kernel_rfl) 69 _ rfl x11 rfl #[.int .i64 b.x.md, .int .i64 b.x.gn, .int .i64 b.x.at_, .int .i64 b.x.sz] _ hbk Tryz.underlying69 rfl (by kernel_rfl) ?_) | (at_builtin; refine wpList_append_own _ rfl _ _ 92 rfl W4.heap.size 69 i0 (.agg #[.int .i64 0, .int .i64 0, .int .i64 0, .int .i64 0]) 4 32 Tryz.underlying92 HI.out.1 HI.out.2.1 HI.out.2.2.1 HI.out.2.2.2 rfl (by decide) _ lk.length _ rfl (Nh.out.bksOwn.alloc _) ⟨W6.heap.size, 0, none⟩ 1 1 [.int .i64 b.x.md, .int .i64 b.x.gn, .int .i64 b.x.at_, .int .i64 b.x.sz] rfl ?c1 ?c2 ?c3 ?c4 ?c5 ?c6 ?_))
            case c1 => rfl
            case c2 =>
              intro j u hj
              rw [Addr.add_lit, World.cell?_alloc_at _ _ _ _ rfl]
              simpa using hj
            case c3 => (intro u hu; simp only [List.mem_cons, List.not_mem_nil, or_false] at hu; rcases hu with rfl | rfl | rfl | rfl <;> rfl)
            case c4 => unfold maxLen; omega
            case c5 => omega
            case c6 => have := Nh.out.bel.size; simp; omega
            intro v' w8 hown1 hgrow _
            have hlt1 := (Nh.out.bksOwn).lt
            have H8 : Hid (Has W4.heap.size W4 w8 (Star (Bks v' (((keysS t).take (k + 1)).filterMap (blk1 t.ml x))) Emp)) := Lib.hid (by
              have hb8 := (Nh.out.bel.alloc Nh.out.le _).grown hgrow (by have := Nh.out.le; simp; omega) (fun j hj => (hlt1 j hj).1)
              refine Has.ofBks ?_ hb8 hb8.size
              rw [HSN.out]
              rw [List.length_append, List.flatMap_append]
              exact hown1)
            clear hown1 hgrow hlt1
            go_wp2
            go_roundw
            case rel => exact ⟨k + 1, by omega, by go_num, H8⟩
            case measure => simp [intOf]; omega
          | none =>
            rw [hfb] at hmg HSN
            have hv3 : (mget (x.bl.map BkE.ent) n).getD (.agg #[.int .i64 0, .int .i64 0, .int .i64 0, .int .i64 0]) = .agg #[.int .i64 0, .int .i64 0, .int .i64 0, .int .i64 0] := by rw [hmg]; rfl
            have hb3 : (mget (x.bl.map BkE.ent) n).isSome = false := by rw [hmg]; rfl
            have Ng := Lib.hid (Nf.out.rowc W5.heap.size #[.int .i64 0, .int .i64 0, .int .i64 0, .int .i64 0])
            have H8 : Hid (Has W4.heap.size W4 ((W5.alloc (.cells #[.int .i64 0, .int .i64 0, .int .i64 0, .int .i64 0] 69)).setRow W5.heap.size #[.int .i64 0, .int .i64 0, .int .i64 0, .int .i64 0]) (Star (Bks u7 (((keysS t).take (k + 1)).filterMap (blk1 t.ml x))) Emp)) := Lib.hid (by
              have h9 := Ng.out.norm (Star (Bks u7 lk) Emp)
              have h10 := HSN.out
              simp only [Option.map_none, Option.toList_none, List.append_nil] at h10
              rw [h10]
              exact h9)
            clear hmg hfb
            go_wp2_with (first | (refine wpList_mlookR rfl 64 3 69 _ _ rfl Tryz.underlying64 Tryz.underlying3 x.g _ _ rfl n rfl (M6.out.getm x.g) (.agg #[.int .i64 0, .int .i64 0, .int .i64 0, .int .i64 0]) z_blk (.agg #[.int .i64 0, .int .i64 0, .int .i64 0, .int .i64 0]) false hv3 hb3 ?_) | (refine wpList_store_row rfl 69 _ _ rfl W5.heap.size #[.int .i64 0, .int .i64 0, .int .i64 0, .int .i64 0] rfl rfl 69 #[.int .i64 0, .int .i64 0, .int .i64 0, .int .i64 0] (Nf.out.getc W5.heap.size) (by kernel_rfl) rfl (by kernel_rfl) ?_))
            go_roundw
            case rel => exact ⟨k + 1, by omega, by go_num, H8⟩
            case measure => simp [intOf]; omega
      · have H8 : Hid (Has B w wr (Star (Bks u7 ((keysS t).filterMap (blk1 t.ml x))) (Tl s t Y))) := Lib.hid (by
          have h9 := hM.out
          rw [List.take_of_length_le (by omega)] at h9
          have h10 := M4.out.blks h9.bksOwn h9.bel
          have h11 := Tl.give (h10.norm (Star (Mp x.g (x.bl.map BkE.ent) x.c) (TlX s t (l1 ++ l2) (Star (Bks u7 ((keysS t).filterMap (blk1 t.ml x))) Y))))
          rw [← HL.out] at h11
          exact h11.norm (Star (Bks u7 ((keysS t).filterMap (blk1 t.ml x))) (Tl s t Y)))
        clear hM M5
        go_wp2
        go_ret
        exact HE.out _ _ H8.out
end Go.Proofs.YtpenejigebkkmaaGreat
