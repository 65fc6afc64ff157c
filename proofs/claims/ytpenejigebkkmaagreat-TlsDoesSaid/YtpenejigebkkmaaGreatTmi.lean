/-
  Layer 17: tls.Address.
  Conditions: none. (My own text.)
-/
import Derived.Test.YtpenejigebkkmaaGreatTmh
namespace Go.Proofs.YtpenejigebkkmaaGreat
open Go.RowKit Spm
set_option linter.unusedVariables false
set_option linter.unusedSimpArgs false

attribute [local irreducible] wpList
theorem mapS_hi (L : List Rg) (size p : Int) : (mapS L size p).2.1 ≤ 9223372036854775807 := by
  unfold mapS
  split
  · show (0 : Int) ≤ _; omega
  · split
    · show (0 : Int) ≤ _; omega
    · show (gapS L size).1 ≤ _
      unfold gapS
      split
      · show (0 : Int) ≤ _; omega
      · split
        · show (0 : Int) ≤ _; omega
        · show gapGo (Spm.up size) L 4096 ≤ _
          have : (0 : Int) ≤ Spm.up size := by unfold Spm.up; omega
          omega
def newB (n : Int) (y : MdE) (at_ : Int) (b : Nat) : BkE := ⟨n, ⟨n, y.x.gen, at_, y.x.size⟩, b⟩
def addB (id n : Int) (x : ThE) (y : MdE) (at_ : Int) (l : List ThE) : List ThE := eset ThE.k ThE.b (fun b => (⟨id, x.tp, x.g, x.bl ++ [newB n y at_ x.c], x.c + 1, b⟩ : ThE)) 0 l id
def AddrB (s : Nat) (t : Ts) (a : Nat) (L : List Rg) (Y : Res) (B : Nat) (w : World) (id n off : Int) (x : ThE) (y : MdE) (e : Ending) (w' : World) : Prop := match efind BkE.k x.bl n with
  | some b => e = .returned (.tuple #[.int .i64 (wrap64 (b.x.at_ + off)), .int .i64 0]) ∧ Has B w w' (Tl s t (Star (Sp a L) Y))
  | none => if (mapS L y.x.size 3).2.2 = 0 then e = .returned (.tuple #[.int .i64 (wrap64 ((mapS L y.x.size 3).2.1 + off)), .int .i64 0]) ∧ Has B w w' (Tl s { t with tl := addB id n x y (mapS L y.x.size 3).2.1 t.tl } (Star (Sp a (setS (mapS L y.x.size 3).1 (mapS L y.x.size 3).2.1 (fullB y.x) 0).1) Y))
    else e = .returned (.tuple #[.int .i64 0, .int .i64 (mapS L y.x.size 3).2.2]) ∧ Has B w w' (Tl s t (Star (Sp a (mapS L y.x.size 3).1) Y))
def AddrM (s : Nat) (t : Ts) (a : Nat) (L : List Rg) (Y : Res) (B : Nat) (w : World) (id n off : Int) (x : ThE) (y : MdE) (e : Ending) (w' : World) : Prop :=
  if off < 0 ∨ y.x.size ≤ off then e = .returned (.tuple #[.int .i64 0, .int .i64 1]) ∧ Has B w w' (Tl s t (Star (Sp a L) Y))
  else if y.x.st = true then e = .returned (.tuple #[.int .i64 (wrap64 (wrap64 (x.tp + y.x.bh) + off)), .int .i64 0]) ∧ Has B w w' (Tl s t (Star (Sp a L) Y))
  else AddrB s t a L Y B w id n off x y e w'
def AddrE (s : Nat) (t : Ts) (a : Nat) (L : List Rg) (Y : Res) (B : Nat) (w : World) (id n off : Int) (e : Ending) (w' : World) : Prop := match efind ThE.k t.tl id with
  | none => e = .returned (.tuple #[.int .i64 0, .int .i64 171]) ∧ Has B w w' (Tl s t (Star (Sp a L) Y))
  | some x => match efind MdE.k t.ml n with
    | none => e = .returned (.tuple #[.int .i64 0, .int .i64 170]) ∧ Has B w w' (Tl s t (Star (Sp a L) Y))
    | some y => AddrM s t a L Y B w id n off x y e w'
set_option maxRecDepth 100000 in
set_option maxHeartbeats 4000000 in
theorem taddr_any {B : Nat} {w wr : World} {Y : Res} [hY : Fr Y] {s a : Nat} {t : Ts} {L : List Rg} (h : Has B w wr (Tl s t (Star (Sp a L) Y))) (hmd : MdsOk t.ml) (id n off : Int) : Calls Tryz.prog 16 #[.pointer (some ⟨s, 0, none⟩), .pointer (some ⟨a, 0, none⟩), .int .i64 id, .int .i64 n, .int .i64 off] wr (AddrE s t a L Y B w id n off) := by
  have M0 := Lib.hid h
  have HMO := Lib.hid hmd
  have s2 : wr.cell? ⟨s, 2, none⟩ = some (.map (some t.gt)) := M0.out.cellat s 2 rfl
  have hmg := mget_efind (ent := ThE.ent) (key := ThE.k) (fun _ => rfl) id t.tl
  clear h hmd
  cases hf : efind ThE.k t.tl id with
  | none =>
    rw [hf] at hmg
    have hv : (mget (t.tl.map ThE.ent) id).getD (.agg #[.int .i64 0, .map none]) = .agg #[.int .i64 0, .map none] := by rw [hmg]; rfl
    have hb : (mget (t.tl.map ThE.ent) id).isSome = false := by rw [hmg]; rfl
    have HE : Hid (∀ w', Has B w w' (Tl s t (Star (Sp a L) Y)) → AddrE s t a L Y B w id n off (.returned (.tuple #[.int .i64 0, .int .i64 171])) w') := Lib.hid (fun w' hh => by unfold AddrE; rw [hf]; exact ⟨rfl, hh⟩)
    have Na := Lib.hid (M0.out.newcel 66 #[.int .i64 0, .map none])
    have Nb := Lib.hid ((Na.out.rowc wr.heap.size #[.int .i64 0, .map none]).norm (Tl s t (Star (Sp a L) Y)))
    clear hmg hf
    go_enter Tryz.func16, Tryz.ntmps16
    go_wp2_with (first | (refine wpList_mlookR rfl 54 3 66 _ _ rfl Tryz.underlying54 Tryz.underlying3 t.gt _ _ rfl id rfl (M0.out.getm t.gt) (.agg #[.int .i64 0, .map none]) z_thr (.agg #[.int .i64 0, .map none]) false hv hb ?_) | (refine wpList_store_row rfl 66 _ _ rfl wr.heap.size #[.int .i64 0, .map none] rfl rfl 66 #[.int .i64 0, .map none] (Na.out.getc wr.heap.size) (by kernel_rfl) rfl (by kernel_rfl) ?_))
    go_ret2
    exact HE.out _ Nb.out
  | some x =>
    rw [hf] at hmg
    obtain ⟨l1, l2, hl, -, hkx, hset⟩ := efind_split hf
    have hv : (mget (t.tl.map ThE.ent) id).getD (.agg #[.int .i64 0, .map none]) = .agg (thA x.tp x.g) := by rw [hmg]; rfl
    have hb : (mget (t.tl.map ThE.ent) id).isSome = true := by rw [hmg]; rfl
    have Na := Lib.hid (M0.out.newcel 66 #[.int .i64 0, .map none])
    have Nb := Lib.hid (Na.out.rowc wr.heap.size (thA x.tp x.g))
    have HL := Lib.hid hl
    have HKX := Lib.hid hkx
    have HST := Lib.hid hset
    have HFX := Lib.hid hf
    clear hmg hf hl hkx hset
    go_enter Tryz.func16, Tryz.ntmps16
    go_upto_region 4 with (first | (refine wpList_mlookR rfl 54 3 66 _ _ rfl Tryz.underlying54 Tryz.underlying3 t.gt _ _ rfl id rfl (M0.out.getm t.gt) (.agg #[.int .i64 0, .map none]) z_thr (.agg (thA x.tp x.g)) true hv hb ?_) | (refine wpList_store_row rfl 66 _ _ rfl wr.heap.size (thA x.tp x.g) rfl rfl 66 #[.int .i64 0, .map none] (Na.out.getc wr.heap.size) (by kernel_rfl) rfl (by kernel_rfl) ?_))
    obtain ⟨W1, hW⟩ : ∃ W1, (wr.alloc (.cells #[.int .i64 0, .map none] 66)).setRow wr.heap.size (thA x.tp x.g) = W1 := ⟨_, rfl⟩
    rw [hW] at Nb ⊢
    clear hW Na s2 M0 hv hb
    generalize wr.heap.size = x12 at Nb ⊢
    have s0 : W1.cell? ⟨s, 0, none⟩ = some (.map (some t.gm)) := Nb.out.cellat s 0 rfl
    have hmg := mget_efind (ent := MdE.ent) (key := MdE.k) (fun _ => rfl) n t.ml
    cases hf : efind MdE.k t.ml n with
    | none =>
      rw [hf] at hmg
      have hv2 : (mget (t.ml.map MdE.ent) n).getD (.agg #[.int .i64 0, .int .i64 0, .slice none 0 0, .bool false, .int .i64 0]) = .agg #[.int .i64 0, .int .i64 0, .slice none 0 0, .bool false, .int .i64 0] := by rw [hmg]; rfl
      have hb2 : (mget (t.ml.map MdE.ent) n).isSome = false := by rw [hmg]; rfl
      have HE : Hid (∀ w', Has B w w' (Tl s t (Star (Sp a L) Y)) → AddrE s t a L Y B w id n off (.returned (.tuple #[.int .i64 0, .int .i64 170])) w') := Lib.hid (fun w' hh => by unfold AddrE; rw [HFX.out]; dsimp only; rw [hf]; exact ⟨rfl, hh⟩)
      have Nc := Lib.hid (Nb.out.newcel 62 #[.int .i64 0, .int .i64 0, .slice none 0 0, .bool false, .int .i64 0])
      have Nd := Lib.hid ((Nc.out.rowc W1.heap.size #[.int .i64 0, .int .i64 0, .slice none 0 0, .bool false, .int .i64 0]).norm (Tl s t (Star (Sp a L) Y)))
      clear hmg hf
      go_wp2_with (first | (refine wpList_mlookR rfl 52 3 62 _ _ rfl Tryz.underlying52 Tryz.underlying3 t.gm _ _ rfl n rfl (Nb.out.getm t.gm) (.agg #[.int .i64 0, .int .i64 0, .slice none 0 0, .bool false, .int .i64 0]) z_mod (.agg #[.int .i64 0, .int .i64 0, .slice none 0 0, .bool false, .int .i64 0]) false hv2 hb2 ?_) | (refine wpList_store_row rfl 62 _ _ rfl W1.heap.size #[.int .i64 0, .int .i64 0, .slice none 0 0, .bool false, .int .i64 0] rfl rfl 62 #[.int .i64 0, .int .i64 0, .slice none 0 0, .bool false, .int .i64 0] (Nc.out.getc W1.heap.size) (by kernel_rfl) rfl (by kernel_rfl) ?_))
      go_ret2
      exact HE.out _ Nd.out
    | some y =>
      rw [hf] at hmg
      obtain ⟨m1, m2, hml, -, hky, -⟩ := efind_split hf
      have hv2 : (mget (t.ml.map MdE.ent) n).getD (.agg #[.int .i64 0, .int .i64 0, .slice none 0 0, .bool false, .int .i64 0]) = .agg (mdA y.x y.v) := by rw [hmg]; rfl
      have hb2 : (mget (t.ml.map MdE.ent) n).isSome = true := by rw [hmg]; rfl
      have HML := Lib.hid hml
      obtain ⟨yA, yc, hyv, -, -⟩ := (Tl.tmpl Nb.out.right hml).src
      have HYV := Lib.hid hyv
      have HYM : Hid (y ∈ t.ml) := Lib.hid (by rw [hml]; simp)
      have HEM : Hid (∀ e w', AddrM s t a L Y B w id n off x y e w' → AddrE s t a L Y B w id n off e w') := Lib.hid (fun e w' hh => by unfold AddrE; rw [HFX.out]; dsimp only; rw [hf]; exact hh)
      have Nc := Lib.hid (Nb.out.newcel 62 #[.int .i64 0, .int .i64 0, .slice none 0 0, .bool false, .int .i64 0])
      have Nd := Lib.hid (Nc.out.rowc W1.heap.size (mdA y.x y.v))
      clear hmg hf hml hky hyv
      go_upto_region 7 with (first | (refine wpList_mlookR rfl 52 3 62 _ _ rfl Tryz.underlying52 Tryz.underlying3 t.gm _ _ rfl n rfl (Nb.out.getm t.gm) (.agg #[.int .i64 0, .int .i64 0, .slice none 0 0, .bool false, .int .i64 0]) z_mod (.agg (mdA y.x y.v)) true hv2 hb2 ?_) | (refine wpList_store_row rfl 62 _ _ rfl W1.heap.size (mdA y.x y.v) rfl rfl 62 #[.int .i64 0, .int .i64 0, .slice none 0 0, .bool false, .int .i64 0] (Nc.out.getc W1.heap.size) (by kernel_rfl) rfl (mdA_one HYV.out) ?_))
      obtain ⟨W2, hW⟩ : ∃ W2, (W1.alloc (.cells #[.int .i64 0, .int .i64 0, .slice none 0 0, .bool false, .int .i64 0] 62)).setRow W1.heap.size (mdA y.x y.v) = W2 := ⟨_, rfl⟩
      rw [hW] at Nd ⊢
      clear hW Nc s0 hv2 hb2 Nb
      generalize W1.heap.size = x14 at Nd ⊢
      have z1 : W2.cell? ⟨x14, 1, none⟩ = some (.int .i64 y.x.size) := Nd.out.cellat x14 1 rfl
      have NS := Lib.hid (Nd.out.norm (Tl s t (Star (Sp a L) Y)))
      by_cases h1 : off < 0
      · have HE : Hid (AddrE s t a L Y B w id n off (.returned (.tuple #[.int .i64 0, .int .i64 1])) W2) := Lib.hid (HEM.out _ _ (by unfold AddrM; rw [if_pos (.inl h1)]; exact ⟨rfl, NS.out⟩))
        go_wp2_with fail
        go_ret2
        exact HE.out
      by_cases h2 : y.x.size ≤ off
      · have HE : Hid (AddrE s t a L Y B w id n off (.returned (.tuple #[.int .i64 0, .int .i64 1])) W2) := Lib.hid (HEM.out _ _ (by unfold AddrM; rw [if_pos (.inr h2)]; exact ⟨rfl, NS.out⟩))
        go_wp2_with fail
        go_ret2
        exact HE.out
      have HIN : Hid (¬ (off < 0 ∨ y.x.size ≤ off)) := Lib.hid (by rintro (hh | hh); exact h1 hh; exact h2 hh)
      cases hst : y.x.st with
      | true =>
        have z3 : W2.cell? ⟨x14, 3, none⟩ = some (.bool true) := by rw [← hst]; exact Nd.out.cellat x14 3 rfl
        have z4 : W2.cell? ⟨x14, 4, none⟩ = some (.int .i64 y.x.bh) := Nd.out.cellat x14 4 rfl
        have y0 : W2.cell? ⟨x12, 0, none⟩ = some (.int .i64 x.tp) := Nd.out.cellat x12 0 rfl
        have HE : Hid (AddrE s t a L Y B w id n off (.returned (.tuple #[.int .i64 (wrap64 (wrap64 (x.tp + y.x.bh) + off)), .int .i64 0])) W2) := Lib.hid (HEM.out _ _ (by unfold AddrM; rw [if_neg HIN.out, if_pos hst]; exact ⟨rfl, NS.out⟩))
        clear hst
        go_wp2_with fail
        go_ret2
        exact HE.out
      | false =>
        have z3 : W2.cell? ⟨x14, 3, none⟩ = some (.bool false) := by rw [← hst]; exact Nd.out.cellat x14 3 rfl
        have y1 : W2.cell? ⟨x12, 1, none⟩ = some (.map (some x.g)) := Nd.out.cellat x12 1 rfl
        have HEB : Hid (∀ e w', AddrB s t a L Y B w id n off x y e w' → AddrE s t a L Y B w id n off e w') := Lib.hid (fun e w' hh => HEM.out _ _ (by unfold AddrM; rw [if_neg HIN.out, if_neg (by rw [hst]; decide)]; exact hh))
        clear hst
        have Ne := Lib.hid (TlX.take (Nd.out.norm (TlX s t t.tl (Star (Cel x14 62 (mdA y.x y.v)) (Star (Cel x12 66 (thA x.tp x.g)) (Star (Sp a L) Y))))) HL.out)
        have hmg := mget_efind (ent := BkE.ent) (key := BkE.k) (fun _ => rfl) n x.bl
        have Nf := Lib.hid (Ne.out.newcel 69 #[.int .i64 0, .int .i64 0, .int .i64 0, .int .i64 0])
        cases hf : efind BkE.k x.bl n with
        | some b =>
          rw [hf] at hmg
          have hv3 : (mget (x.bl.map BkE.ent) n).getD (.agg #[.int .i64 0, .int .i64 0, .int .i64 0, .int .i64 0]) = .agg (bkA b.x) := by rw [hmg]; rfl
          have hb3 : (mget (x.bl.map BkE.ent) n).isSome = true := by rw [hmg]; rfl
          have Ng := Lib.hid (Nf.out.rowc W2.heap.size (bkA b.x))
          have HE : Hid (∀ w', Has B w w' (Tl s t (Star (Sp a L) Y)) → AddrE s t a L Y B w id n off (.returned (.tuple #[.int .i64 (wrap64 (b.x.at_ + off)), .int .i64 0])) w') := Lib.hid (fun w' hh => HEB.out _ _ (by unfold AddrB; rw [hf]; exact ⟨rfl, hh⟩))
          clear hmg hf
          go_upto_region 12 with (first | (refine wpList_mlookR rfl 64 3 69 _ _ rfl Tryz.underlying64 Tryz.underlying3 x.g _ _ rfl n rfl (Ne.out.getm x.g) (.agg #[.int .i64 0, .int .i64 0, .int .i64 0, .int .i64 0]) z_blk (.agg (bkA b.x)) true hv3 hb3 ?_) | (refine wpList_store_row rfl 69 _ _ rfl W2.heap.size (bkA b.x) rfl rfl 69 #[.int .i64 0, .int .i64 0, .int .i64 0, .int .i64 0] (Nf.out.getc W2.heap.size) (by kernel_rfl) rfl (by kernel_rfl) ?_))
          obtain ⟨W3, hW⟩ : ∃ W3, (W2.alloc (.cells #[.int .i64 0, .int .i64 0, .int .i64 0, .int .i64 0] 69)).setRow W2.heap.size (bkA b.x) = W3 := ⟨_, rfl⟩
          rw [hW] at Ng ⊢
          have b2 : W3.cell? ⟨W2.heap.size, 2, none⟩ = some (.int .i64 b.x.at_) := Ng.out.cellat W2.heap.size 2 rfl
          have NZ := Lib.hid (Tl.give (Ng.out.norm (Star (Mp x.g (x.bl.map BkE.ent) x.c) (TlX s t (l1 ++ l2) (Star (Sp a L) Y)))))
          clear hW
          go_wp2_with fail
          go_ret2
          refine HE.out _ ?_
          have h9 := NZ.out
          rw [← HL.out] at h9
          exact h9
        | none =>
          rw [hf] at hmg
          have hv3 : (mget (x.bl.map BkE.ent) n).getD (.agg #[.int .i64 0, .int .i64 0, .int .i64 0, .int .i64 0]) = .agg #[.int .i64 0, .int .i64 0, .int .i64 0, .int .i64 0] := by rw [hmg]; rfl
          have hb3 : (mget (x.bl.map BkE.ent) n).isSome = false := by rw [hmg]; rfl
          have Ng := Lib.hid (Nf.out.rowc W2.heap.size #[.int .i64 0, .int .i64 0, .int .i64 0, .int .i64 0])
          have HFB := Lib.hid hf
          clear hmg hf
          go_upto_region 13 with (first | (refine wpList_mlookR rfl 64 3 69 _ _ rfl Tryz.underlying64 Tryz.underlying3 x.g _ _ rfl n rfl (Ne.out.getm x.g) (.agg #[.int .i64 0, .int .i64 0, .int .i64 0, .int .i64 0]) z_blk (.agg #[.int .i64 0, .int .i64 0, .int .i64 0, .int .i64 0]) false hv3 hb3 ?_) | (refine wpList_store_row rfl 69 _ _ rfl W2.heap.size #[.int .i64 0, .int .i64 0, .int .i64 0, .int .i64 0] rfl rfl 69 #[.int .i64 0, .int .i64 0, .int .i64 0, .int .i64 0] (Nf.out.getc W2.heap.size) (by kernel_rfl) rfl (by kernel_rfl) ?_))
          obtain ⟨W3, hW⟩ : ∃ W3, (W2.alloc (.cells #[.int .i64 0, .int .i64 0, .int .i64 0, .int .i64 0] 69)).setRow W2.heap.size #[.int .i64 0, .int .i64 0, .int .i64 0, .int .i64 0] = W3 := ⟨_, rfl⟩
          rw [hW] at Ng ⊢
          clear hW Nf Ne Nd z1 z3 y1 NS hv3 hb3
          generalize W2.heap.size = x15 at Ng ⊢
          have z1 : W3.cell? ⟨x14, 1, none⟩ = some (.int .i64 y.x.size) := Ng.out.cellat x14 1 rfl
          have C1 := Lib.hid (own_map (Ng.out.pick (Sp a L)) y.x.size 3)
          go_wp2_with fail
          refine (C1.out).mono ?_
          rintro e wa ⟨rfl, m⟩
          obtain ⟨⟨L1, at_, er⟩, hm⟩ : ∃ q, mapS L y.x.size 3 = q := ⟨_, rfl⟩
          rw [hm] at m ⊢
          have HM := Lib.hid hm
          have HAT : Hid (at_ ≤ 9223372036854775807) := Lib.hid (by
            have := mapS_hi L y.x.size 3
            rw [hm] at this
            exact this)
          clear hm C1 z1 Ng
          by_cases her : er = 0
          · subst her
            have HE : Hid (∀ w', Has B w w' (Tl s { t with tl := addB id n x y at_ t.tl } (Star (Sp a (setS L1 at_ (fullB y.x) 0).1) Y)) → AddrE s t a L Y B w id n off (.returned (.tuple #[.int .i64 (wrap64 (at_ + off)), .int .i64 0])) w') := Lib.hid (fun w' hh => HEB.out _ _ (by unfold AddrB; rw [HFB.out]; dsimp only; rw [HM.out, if_pos rfl]; exact ⟨rfl, hh⟩))
            have Ma := Lib.hid (m.norm (Star (Cel x15 69 #[.int .i64 0, .int .i64 0, .int .i64 0, .int .i64 0]) (Star (Mp x.g (x.bl.map BkE.ent) x.c) (TlX s t (l1 ++ l2) (Star (Cel x14 62 (mdA y.x y.v)) (Star (Cel x12 66 (thA x.tp x.g)) (Star (Sp a L1) Y)))))))
            clear m
            have HBY := Lib.hid (Tl.tmpl Ma.out.right.right HML.out)
            have C2 := Lib.hid (tbytes_any HBY.out (HMO.out y HYM.out).1 (HMO.out y HYM.out).2)
            go_wp2_with (first | (refine wpList_rowW (by kernel_rfl) 62 _ rfl x14 rfl (mdA y.x y.v) _ (Ma.out.getc x14) Tryz.underlying62 rfl (by kernel_rfl) ?_))
            refine (C2.out).mono ?_
            rintro e X1 ⟨v2, rfl, hb2, hbel⟩
            have Nd := Lib.hid (Ma.out.stay hbel)
            obtain ⟨uA, uc, hu, -, hsrc⟩ := hb2.src
            have C3 := Lib.hid (own_poke (Nd.out.pick (Sp a L1)) at_ HAT.out uA uc (fullB y.x) (by have := fullB_len (HMO.out y HYM.out).1; have := (HMO.out y HYM.out).2; omega) hsrc)
            rw [← hu] at C3
            clear hu hsrc hb2 hbel C2 Ma HBY
            go_wp2_with fail
            refine (C3.out).mono ?_
            rintro e wb ⟨rfl, m⟩
            have Ma := Lib.hid (m.norm (Star (Cel x15 69 #[.int .i64 0, .int .i64 0, .int .i64 0, .int .i64 0]) (Star (Mp x.g (x.bl.map BkE.ent) x.c) (TlX s t (l1 ++ l2) (Star (Cel x14 62 (mdA y.x y.v)) (Star (Cel x12 66 (thA x.tp x.g)) (Star (Sp a (setS L1 at_ (fullB y.x) 0).1) Y)))))))
            clear m C3 Nd
            have z0 : wb.cell? ⟨x14, 0, none⟩ = some (.int .i64 y.x.gen) := Ma.out.cellat x14 0 rfl
            have z1 : wb.cell? ⟨x14, 1, none⟩ = some (.int .i64 y.x.size) := Ma.out.cellat x14 1 rfl
            have Mb := Lib.hid (Ma.out.rowc x15 (bkA ⟨n, y.x.gen, at_, y.x.size⟩))
            go_upto_region 18 with (refine wpList_store_row rfl 69 _ _ rfl x15 (bkA ⟨n, y.x.gen, at_, y.x.size⟩) rfl rfl 69 #[.int .i64 0, .int .i64 0, .int .i64 0, .int .i64 0] (Ma.out.getc x15) (by kernel_rfl) rfl (by kernel_rfl) ?_)
            obtain ⟨W5, hW⟩ : ∃ W5, wb.setRow x15 (bkA ⟨n, y.x.gen, at_, y.x.size⟩) = W5 := ⟨_, rfl⟩
            rw [hW] at Mb ⊢
            clear hW z0 z1 Ma
            have y1 : W5.cell? ⟨x12, 1, none⟩ = some (.map (some x.g)) := Mb.out.cellat x12 1 rfl
            have Mc := Lib.hid (Mb.out.setm x.g (mset (x.bl.map BkE.ent) n (.agg (bkA ⟨n, y.x.gen, at_, y.x.size⟩)) x.c) (mclk (x.bl.map BkE.ent) n x.c))
            have b2 : (World.putO W5 x.g (.map ((mset (x.bl.map BkE.ent) n (.agg (bkA ⟨n, y.x.gen, at_, y.x.size⟩)) x.c).map entM).toArray (mclk (x.bl.map BkE.ent) n x.c))).cell? ⟨x15, 2, none⟩ = some (.int .i64 at_) := Mc.out.cellat x15 2 rfl
            have MZ : Hid (Has B w (World.putO W5 x.g (.map ((mset (x.bl.map BkE.ent) n (.agg (bkA ⟨n, y.x.gen, at_, y.x.size⟩)) x.c).map entM).toArray (mclk (x.bl.map BkE.ent) n x.c))) (Tl s { t with tl := addB id n x y at_ t.tl } (Star (Sp a (setS L1 at_ (fullB y.x) 0).1) Y))) := Lib.hid (by
              have h1 := Mc.out
              have e1 := mset_eset (ent := BkE.ent) (key := BkE.k) (st := BkE.b) (fun _ => rfl) (fun _ => rfl) (k := n) (v := .agg (bkA ⟨n, y.x.gen, at_, y.x.size⟩)) (mk := fun b => newB n y at_ b) (fun _ => rfl) x.c x.bl
              rw [eset_new HFB.out] at e1
              have e2 := mclk_new (ent := BkE.ent) (key := BkE.k) (fun _ => rfl) (c := x.c) HFB.out
              rw [e1, e2] at h1 ⊢
              have e3 : addB id n x y at_ t.tl = l1 ++ ⟨id, x.tp, x.g, x.bl ++ [newB n y at_ x.c], x.c + 1, x.b⟩ :: l2 := by unfold addB; exact HST.out _ _ _
              have e4 : (addB id n x y at_ t.tl).map ThE.ent = t.tl.map ThE.ent := by
                rw [e3, HL.out, List.map_append, List.map_append, List.map_cons, List.map_cons]
                have : ThE.ent ⟨id, x.tp, x.g, x.bl ++ [newB n y at_ x.c], x.c + 1, x.b⟩ = ThE.ent x := by unfold ThE.ent; rw [HKX.out]
                rw [this]
              have h2 := h1.norm (Star (Mp x.g ((x.bl ++ [newB n y at_ x.c]).map BkE.ent) (x.c + 1)) (TlX s t (l1 ++ l2) (Star (Sp a (setS L1 at_ (fullB y.x) 0).1) Y)))
              have h3 := Tl.give (x := (⟨id, x.tp, x.g, x.bl ++ [newB n y at_ x.c], x.c + 1, x.b⟩ : ThE)) h2
              rw [← e3] at h3
              show Has B w _ (Star (Cel s 56 t.arr) (Star (Mp t.gm (t.ml.map MdE.ent) t.mc) (Star (Mp t.gg (t.gl.map GnE.ent) t.gc) (Star (Mp t.gt ((addB id n x y at_ t.tl).map ThE.ent) t.tc) (Star (All mdR t.ml) (Star (All thR (addB id n x y at_ t.tl)) (Star (Sp a (setS L1 at_ (fullB y.x) 0).1) Y)))))))
              rw [e4]
              exact h3)
            clear Mc
            go_wp2_with (first | (refine wpList_rowW (by kernel_rfl) 69 _ rfl x15 rfl (bkA ⟨n, y.x.gen, at_, y.x.size⟩) _ (Mb.out.getc x15) Tryz.underlying69 rfl (by kernel_rfl) ?_) | (refine wpList_mset rfl 64 3 69 _ _ _ rfl Tryz.underlying64 Tryz.underlying3 x.g _ x.c rfl n rfl (.agg (bkA ⟨n, y.x.gen, at_, y.x.size⟩)) rfl (Mb.out.getm x.g) ?_))
            go_ret2
            exact HE.out _ MZ.out
          · have NZ := Lib.hid (Tl.give (m.norm (Star (Mp x.g (x.bl.map BkE.ent) x.c) (TlX s t (l1 ++ l2) (Star (Sp a L1) Y)))))
            have HE : Hid (∀ w', Has B w w' (Tl s t (Star (Sp a L1) Y)) → AddrE s t a L Y B w id n off (.returned (.tuple #[.int .i64 0, .int .i64 er])) w') := Lib.hid (fun w' hh => HEB.out _ _ (by unfold AddrB; rw [HFB.out]; dsimp only; rw [HM.out, if_neg her]; exact ⟨rfl, hh⟩))
            clear m
            go_wp2_with fail
            go_ret2
            refine HE.out _ ?_
            have h9 := NZ.out
            rw [← HL.out] at h9
            exact h9
end Go.Proofs.YtpenejigebkkmaaGreat
