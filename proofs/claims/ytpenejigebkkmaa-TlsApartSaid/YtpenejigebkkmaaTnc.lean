/-
  Layer 17, plain: where the blocks lie; the laws of TlsNumbers, TlsGone, TlsApart.
  Conditions: none. (My own text.)
-/
import Derived.Test.YtpenejigebkkmaaTna
import Derived.Test.YtpenejigebkkmaaTmv
namespace Go.Proofs.Ytpenejigebkkmaa
open Go.RowKit Spm
set_option linter.unusedVariables false
set_option linter.unusedSimpArgs false

theorem SInv.num {t : Ts} {L : List Rg} (h : SInv t L) : MdsNum t.ml := ⟨h.inv.good.km, h.k1, fun m hm => (h.inv.key m hm).1⟩
theorem nodup_inj {α β : Type} {f : α → β} {a b : α} : ∀ {l : List α}, (l.map f).Nodup → a ∈ l → b ∈ l → f a = f b → a = b
  | [], _, h, _, _ => by simp at h
  | x :: l, hn, ha, hb, e => by
    rw [List.map_cons, List.nodup_cons] at hn
    rcases List.mem_cons.1 ha with ha1 | ha1
    · rcases List.mem_cons.1 hb with hb1 | hb1
      · rw [ha1, hb1]
      · exact absurd (by rw [← ha1, e]; exact List.mem_map_of_mem hb1) hn.1
    · rcases List.mem_cons.1 hb with hb1 | hb1
      · exact absurd (by rw [← hb1, ← e]; exact List.mem_map_of_mem ha1) hn.1
      · exact nodup_inj hn.2 ha1 hb1 e
theorem regions_apart {L : List Rg} (h : Ok L) {r s : Rg} (hr : r ∈ L) (hs : s ∈ L) (hne : r.at_ ≠ s.at_) : r.at_ + r.sz ≤ s.at_ ∨ s.at_ + s.sz ≤ r.at_ := by
  obtain ⟨i, hi⟩ := List.mem_iff_getElem?.1 hr
  obtain ⟨j, hj⟩ := List.mem_iff_getElem?.1 hs
  rcases Nat.lt_trichotomy i j with hl | hl | hl
  · exact .inl (pw_get h.srt hi hj hl)
  · subst hl
    rw [hi] at hj
    obtain rfl := Option.some.inj hj
    exact absurd rfl hne
  · exact .inr (pw_get h.srt hj hi hl)
/-- Where a thread's block of a module lies. -/
structure BlkIn (t : Ts) (L : List Rg) (x : ThE) (n : Int) (b : Bk) (m : MdE) (c : Pc) (r : Rg) : Prop where
  md : b.md = n
  fm : efind MdE.k t.ml n = some m
  sz1 : 1 ≤ b.sz
  sz2 : b.sz ≤ 4096
  kind : (m.x.st = true ∧ b.at_ = x.tp + m.x.bh ∧ b.sz = m.x.size ∧ c = (x.tp, up (max 8 t.ar), 3)) ∨ (m.x.st = false ∧ ∃ e ∈ x.bl, e.k = n ∧ b = e.x ∧ c = bkP e)
  pc : c ∈ thP t.ar x
  mem : r ∈ L
  shp : pcOf r = c
  lo : r.at_ ≤ b.at_
  hi : b.at_ + b.sz ≤ r.at_ + r.sz
theorem SInv.blk_in {t : Ts} {L : List Rg} (h : SInv t L) {x : ThE} (hx : x ∈ t.tl) {n : Int} {b : Bk} (hb : blk1 t.ml x n = some b) : ∃ m c r, BlkIn t L x n b m c r := by
  unfold blk1 at hb
  cases hm : efind MdE.k t.ml n with
  | none => rw [hm] at hb; cases hb
  | some m =>
    rw [hm] at hb
    dsimp only at hb
    obtain ⟨hmm, hmk⟩ := efind_mem hm
    obtain ⟨z1, z2⟩ := h.size hmm
    by_cases hst : m.x.st = true
    · rw [if_pos hst] at hb
      obtain rfl := Option.some.inj hb
      have hc : (x.tp, up (max 8 t.ar), (3 : Int)) ∈ thP t.ar x := List.mem_cons_self ..
      obtain ⟨r, hr, hsr⟩ := h.reg_of hx hc
      have e1 : r.at_ = x.tp := congrArg (·.1) hsr
      have e2 : r.sz = up (max 8 t.ar) := congrArg (·.2.1) hsr
      have hro := h.ok.each r hr
      have h1 := hro.lo
      have h2 := hro.hi
      obtain ⟨s1, s2⟩ := h.sta m hmm hst
      obtain ⟨u1, -⟩ := upT_nn z1
      have a1 := h.a1
      obtain ⟨u3, -⟩ := up_ge (max 8 t.ar) (by omega)
      have w1 : wrap64 (x.tp + m.x.bh) = x.tp + m.x.bh := by simp only [wrap64]; omega
      refine ⟨m, _, r, rfl, hm, z1, z2, .inl ⟨hst, w1, rfl, rfl⟩, hc, hr, hsr, ?_, ?_⟩
      · show r.at_ ≤ wrap64 (x.tp + m.x.bh)
        rw [w1]; omega
      · show wrap64 (x.tp + m.x.bh) + m.x.size ≤ _
        rw [w1]; omega
    · rw [if_neg hst] at hb
      cases hf : efind BkE.k x.bl n with
      | none => rw [hf] at hb; cases hb
      | some e =>
        rw [hf] at hb
        obtain rfl := Option.some.inj hb
        obtain ⟨hem, hek⟩ := efind_mem hf
        obtain ⟨m', hm', -, hmd, -, hsz⟩ := h.bk x hx e hem
        rw [hek, hm] at hm'
        obtain rfl := Option.some.inj hm'
        have hc : bkP e ∈ thP t.ar x := List.mem_cons_of_mem _ (List.mem_map_of_mem hem)
        obtain ⟨r, hr, hsr⟩ := h.reg_of hx hc
        have e1 : r.at_ = e.x.at_ := congrArg (·.1) hsr
        have e2 : r.sz = up e.x.sz := congrArg (·.2.1) hsr
        obtain ⟨u3, -⟩ := up_ge e.x.sz (by omega)
        exact ⟨m, _, r, hmd.trans hek, hm, by show 1 ≤ e.x.sz; omega, by show e.x.sz ≤ 4096; omega, .inr ⟨by simpa using hst, e, hem, hek, rfl, rfl⟩, hc, hr, hsr, by show r.at_ ≤ e.x.at_; omega, by show e.x.at_ + e.x.sz ≤ _; omega⟩
theorem SInv.th_fst {t : Ts} {L : List Rg} (h : SInv t L) {x : ThE} (hx : x ∈ t.tl) : ((thP t.ar x).map (·.1)).Nodup := by
  obtain ⟨l1, l2, hl⟩ := List.append_of_mem hx
  have hn := h.fst
  rw [hl] at hn
  have hn2 := ((pcs_mid t.ar x l1 l2).map (·.1)).nodup_iff.1 hn
  rw [List.map_append] at hn2
  exact (List.nodup_append.1 hn2).1
def DisjB (a b : Bk) : Prop := a.at_ + a.sz ≤ b.at_ ∨ b.at_ + b.sz ≤ a.at_
theorem SInv.disj_th {t : Ts} {L : List Rg} (h : SInv t L) {x y : ThE} (hx : x ∈ t.tl) (hy : y ∈ t.tl) (hne : x.k ≠ y.k) {n k : Int} {a b : Bk} (ha : blk1 t.ml x n = some a) (hb : blk1 t.ml y k = some b) : DisjB a b := by
  obtain ⟨m, c, r, B1⟩ := h.blk_in hx ha
  obtain ⟨m', d, s, B2⟩ := h.blk_in hy hb
  have hcd := h.apart2 hx hy hne B1.pc B2.pc
  rw [← B1.shp, ← B2.shp] at hcd
  have := regions_apart h.ok B1.mem B2.mem hcd
  have a1 := B1.lo; have a2 := B1.hi; have a3 := B2.lo; have a4 := B2.hi
  unfold DisjB
  omega
theorem SInv.disj_one {t : Ts} {L : List Rg} (h : SInv t L) {x : ThE} (hx : x ∈ t.tl) {n k : Int} (hne : n ≠ k) {a b : Bk} (ha : blk1 t.ml x n = some a) (hb : blk1 t.ml x k = some b) : DisjB a b := by
  obtain ⟨m, c, r, B1⟩ := h.blk_in hx ha
  obtain ⟨m', d, s, B2⟩ := h.blk_in hx hb
  have hfst := h.th_fst hx
  have hreg : c.1 ≠ d.1 → DisjB a b := fun hcd => by
    rw [← B1.shp, ← B2.shp] at hcd
    have := regions_apart h.ok B1.mem B2.mem hcd
    have a1 := B1.lo; have a2 := B1.hi; have a3 := B2.lo; have a4 := B2.hi
    unfold DisjB
    omega
  have hn2 : (x.tp :: x.bl.map fun e => e.x.at_).Nodup := by
    have := hfst
    unfold thP at this
    rw [List.map_cons, List.map_map] at this
    exact this
  rw [List.nodup_cons] at hn2
  rcases B1.kind with ⟨s1, p1, q1, c1⟩ | ⟨s1, e1, he1, hk1, hb1, c1⟩
  · rcases B2.kind with ⟨s2, p2, q2, c2⟩ | ⟨s2, e2, he2, hk2, hb2, c2⟩
    · obtain ⟨hm1, hk1⟩ := efind_mem B1.fm
      obtain ⟨hm2, hk2⟩ := efind_mem B2.fm
      obtain ⟨i, hi⟩ := List.mem_iff_getElem?.1 hm1
      obtain ⟨j, hj⟩ := List.mem_iff_getElem?.1 hm2
      obtain ⟨u1, -⟩ := upT_nn (h.size hm1).1
      obtain ⟨u2, -⟩ := upT_nn (h.size hm2).1
      unfold DisjB
      rcases Nat.lt_trichotomy i j with hl | hl | hl
      · have := pw_get h.apart hi hj hl s1 s2
        omega
      · subst hl
        rw [hi] at hj
        obtain rfl := Option.some.inj hj
        exact absurd (hk1.symm.trans hk2) hne
      · have := pw_get h.apart hj hi hl s2 s1
        omega
    · refine hreg ?_
      rw [c1, c2]
      exact fun e => hn2.1 (by
        show x.tp ∈ _
        rw [show x.tp = e2.x.at_ from e]
        exact List.mem_map_of_mem (f := fun e : BkE => e.x.at_) he2)
  · rcases B2.kind with ⟨s2, p2, q2, c2⟩ | ⟨s2, e2, he2, hk2, hb2, c2⟩
    · refine hreg ?_
      rw [c1, c2]
      exact fun e => hn2.1 (by
        show x.tp ∈ _
        rw [← show e1.x.at_ = x.tp from e]
        exact List.mem_map_of_mem (f := fun e : BkE => e.x.at_) he1)
    · refine hreg ?_
      rw [c1, c2]
      intro e
      have := nodup_inj hn2.2 he1 he2 (show e1.x.at_ = e2.x.at_ from e)
      subst this
      exact hne (hk1.symm.trans hk2)
theorem keysS_nodup {t : Ts} {L : List Rg} (h : SInv t L) : (keysS t).Nodup := by
  unfold keysS
  exact (List.mergeSort_perm _ _).nodup_iff.2 h.inv.good.km

/-! ### TlsApart -/
theorem blks_mem {t : Ts} {id : Int} {b : Bk} (h : b ∈ blksS t id) : ∃ x n, efind ThE.k t.tl id = some x ∧ n ∈ keysS t ∧ blk1 t.ml x n = some b := by
  unfold blksS at h
  cases hf : efind ThE.k t.tl id with
  | none => rw [hf] at h; simp at h
  | some x =>
    rw [hf] at h
    obtain ⟨n, hn, hb⟩ := List.mem_filterMap.1 h
    exact ⟨x, n, rfl, hn, hb⟩
def allS (t : Ts) (k : Nat) : List Bk := (List.range k).flatMap fun (i : Nat) => blksS t (i : Int)
theorem allS_snoc (t : Ts) (k : Nat) : allS t (k + 1) = allS t k ++ blksS t (k : Int) := by
  unfold allS
  rw [List.range_succ, List.flatMap_append]
  simp
theorem allS_apart {t : Ts} {L : List Rg} (h : SInv t L) (k : Nat) : (allS t k).Pairwise DisjB := by
  unfold allS
  rw [List.pairwise_flatMap]
  refine ⟨fun i _ => ?_, ?_⟩
  · unfold blksS
    cases hf : efind ThE.k t.tl (i : Int) with
    | none => exact List.Pairwise.nil
    | some x =>
      show ((keysS t).filterMap (blk1 t.ml x)).Pairwise DisjB
      rw [List.pairwise_filterMap]
      refine List.Pairwise.imp ?_ (keysS_nodup h)
      intro n k hne a ha b hb
      exact h.disj_one (efind_mem hf).1 hne ha hb
  · refine List.Pairwise.imp ?_ (List.pairwise_lt_range (n := k))
    intro i j hij a ha b hb
    obtain ⟨x, n, hx, -, ha⟩ := blks_mem ha
    obtain ⟨y, k, hy, -, hb⟩ := blks_mem hb
    obtain ⟨hx1, hx2⟩ := efind_mem hx
    obtain ⟨hy1, hy2⟩ := efind_mem hy
    exact h.disj_th hx1 hy1 (by rw [hx2, hy2]; omega) ha hb
theorem blk_peek {t : Ts} {L : List Rg} (h : SInv t L) {id : Int} {b : Bk} (hb : b ∈ blksS t id) : (getS L b.at_ b.sz 0).2 = 0 ∧ 4096 ≤ b.at_ ∧ 1 ≤ b.sz ∧ b.sz ≤ 4096 ∧ b.at_ + b.sz ≤ 4294967296 := by
  obtain ⟨x, n, hx, -, hb⟩ := blks_mem hb
  obtain ⟨m, c, r, B1⟩ := h.blk_in (efind_mem hx).1 hb
  have hro := h.ok.each r B1.mem
  have h1 := hro.lo; have h2 := hro.hi
  have a1 := B1.lo; have a2 := B1.hi; have a3 := B1.sz1; have a4 := B1.sz2
  have hpm : r.pm = 3 := by
    have := B1.shp
    rcases B1.kind with ⟨-, -, -, hc⟩ | ⟨-, e, -, -, -, hc⟩
    · rw [hc] at this; exact congrArg (·.2.2) this
    · rw [hc] at this; exact congrArg (·.2.2) this
  refine ⟨?_, by omega, a3, a4, by omega⟩
  rw [get_err, if_neg (by omega)]
  exact part_three h.ok B1.mem hpm a1 (by omega) (by omega) 0 (by simp)
theorem blks_len {t : Ts} {L : List Rg} (h : SInv t L) (id : Int) : (blksS t id).length ≤ 64 := by
  unfold blksS
  split
  · exact Nat.zero_le _
  · refine Nat.le_trans (fm_len _ _) ?_
    rw [keysS_len]
    exact h.num.len

/-! ### TlsGone -/
def stS (t : Ts) (n : Int) : Bool := match efind MdE.k t.ml n with | none => false | some m => m.x.st
def aloneS (t : Ts) (l : List Bk) : Nat := (l.filter fun b => !stS t b.md).length
theorem alone_fm (t : Ts) (f : Int → Option Bk) (hf : ∀ n b, f n = some b → b.md = n) : ∀ l : List Int, aloneS t (l.filterMap f) = (l.filter fun n => (f n).isSome && !stS t n).length
  | [] => rfl
  | n :: l => by
    have ih := alone_fm t f hf l
    unfold aloneS at ih ⊢
    rw [List.filterMap_cons, List.filter_cons]
    cases hn : f n with
    | none => simpa using ih
    | some b =>
      simp only
      rw [List.filter_cons, hf n b hn]
      cases stS t n with
      | true => simpa using ih
      | false => simp [ih]
theorem SInv.alone {t : Ts} {L : List Rg} (h : SInv t L) {x : ThE} (hx : x ∈ t.tl) : aloneS t ((keysS t).filterMap (blk1 t.ml x)) = x.bl.length := by
  rw [alone_fm t _ (fun n b hb => by obtain ⟨m, c, r, B1⟩ := h.blk_in hx hb; exact B1.md)]
  have hp : ((keysS t).filter fun n => (blk1 t.ml x n).isSome && !stS t n).Perm (x.bl.map BkE.k) := by
    refine (List.perm_ext_iff_of_nodup ((keysS_nodup h).sublist List.filter_sublist) (h.inv.good.kb hx)).2 fun n => ?_
    rw [List.mem_filter]
    constructor
    · rintro ⟨hn, hc⟩
      rw [Bool.and_eq_true] at hc
      obtain ⟨b, hb⟩ := Option.isSome_iff_exists.1 hc.1
      obtain ⟨m, c, r, B1⟩ := h.blk_in hx hb
      have hs : stS t n = m.x.st := by unfold stS; rw [B1.fm]
      rcases B1.kind with ⟨s1, -⟩ | ⟨s1, e, he, hk, -⟩
      · rw [hs, s1] at hc
        simp at hc
      · rw [← hk]
        exact List.mem_map_of_mem he
    · intro hn
      obtain ⟨e, he, rfl⟩ := List.mem_map.1 hn
      obtain ⟨m, hm, hst, -⟩ := h.bk x hx e he
      have hmm := efind_mem hm
      refine ⟨keysS_mem.2 (by rw [← hmm.2]; exact List.mem_map_of_mem hmm.1), ?_⟩
      have hs : stS t e.k = false := by unfold stS; rw [hm]; exact hst
      have hf := efind_of_mem (h.inv.good.kb hx) he
      have hb : blk1 t.ml x e.k = some e.x := by
        unfold blk1
        rw [hm]
        dsimp only
        rw [if_neg (by rw [hst]; decide), hf]
        rfl
      rw [hb, hs]
      rfl
  rw [hp.length_eq, List.length_map]
structure GoneR (t : Ts) (L : List Rg) (id r : Int) (t' : Ts) (L' : List Rg) : Prop where
  bad : r ≠ 0 → r = 171 ∧ blksS t id = [] ∧ L' = L
  free : r = 0 → ∀ b ∈ blksS t id, (getS L' b.at_ 1 0).2 = 50
  len : r = 0 → L'.length + aloneS t (blksS t id) + 1 = L.length
  none : r = 0 → blksS t' id = []
theorem gone_plain {t : Ts} {L : List Rg} (h : SInv t L) {id r : Int} {t' : Ts} {L' : List Rg} (hp : ExitP t L id r t' L') : GoneR t L id r t' L' := by
  have hg := exit_gone h hp
  have hs' := h.exit hp
  unfold ExitP at hp
  cases hf : efind ThE.k t.tl id with
  | none =>
    rw [hf] at hp
    obtain ⟨rfl, -, rfl⟩ := hp
    exact ⟨fun _ => ⟨rfl, by unfold blksS; rw [hf], rfl⟩, fun hh => absurd hh (by decide), fun hh => absurd hh (by decide), fun hh => absurd hh (by decide)⟩
  | some x =>
    rw [hf] at hp
    obtain ⟨rfl, rfl, az, hz, rfl⟩ := hp
    obtain ⟨l1, l2, hl, hdel, hkx, -⟩ := efind_split hf
    have hx := (efind_mem hf).1
    have hbl : blksS t id = (keysS t).filterMap (blk1 t.ml x) := by unfold blksS; rw [hf]
    have hL' : (((unmapS (unmapsS L az) x.tp).1).map pcOf).Perm (pcs t.ar (l1 ++ l2)) := by
      have := hs'.shp
      rw [show (edel ThE.k t.tl id) = l1 ++ l2 from hdel] at this
      exact this
    have hL : (L.map pcOf).Perm (thP t.ar x ++ pcs t.ar (l1 ++ l2)) := by
      have := h.shp
      rw [hl] at this
      exact this.trans (pcs_mid t.ar x l1 l2)
    have hfil : (unmapS (unmapsS L az) x.tp).1 = L.filter fun r => decide (r.at_ ∉ az ++ [x.tp]) := by
      rw [← unmapsS_snoc, unmapsS_filter _ _ h.ok]
    refine ⟨fun hh => absurd rfl hh, fun _ b hb => ?_, fun _ => ?_, fun _ => ?_⟩
    · rw [hbl] at hb
      obtain ⟨n, -, hb⟩ := List.mem_filterMap.1 hb
      obtain ⟨m, c, r, B1⟩ := h.blk_in hx hb
      rw [get_err, if_neg (by omega)]
      cases hgt : (unmapS (unmapsS L az) x.tp).1[partK (unmapS (unmapsS L az) x.tp).1 b.at_]? with
      | none => unfold partS; rw [hgt]
      | some s =>
        exfalso
        obtain ⟨hlt, he⟩ := List.getElem?_eq_some_iff.1 hgt
        have hin : inside b.at_ s = true := by
          rw [← he]
          exact List.findIdx_getElem (p := inside b.at_) (xs := (unmapS (unmapsS L az) x.tp).1) (w := hlt)
        have hsm := List.mem_of_getElem? hgt
        have hsL : s ∈ L := by rw [hfil] at hsm; exact (List.mem_filter.1 hsm).1
        have a1 := B1.lo; have a2 := B1.hi; have a3 := B1.sz1
        obtain ⟨i, hi⟩ := List.mem_iff_getElem?.1 B1.mem
        obtain ⟨j, hj⟩ := List.mem_iff_getElem?.1 hsL
        have hij := ok_unique h.ok hi hj (inside_of a1 (by omega)) hin
        subst hij
        rw [hi] at hj
        obtain rfl := Option.some.inj hj
        have hc2 : pcOf r ∈ pcs t.ar (l1 ++ l2) := hL'.mem_iff.1 (List.mem_map_of_mem hsm)
        have hn := (hL.map (·.1)).nodup_iff.1 (by rw [List.map_map]; exact ats_nodup h.ok)
        rw [List.map_append] at hn
        have hc1 : pcOf r ∈ thP t.ar x := by rw [B1.shp]; exact B1.pc
        exact (List.nodup_append.1 hn).2.2 _ (List.mem_map_of_mem (f := (·.1)) hc1) _ (List.mem_map_of_mem (f := (·.1)) hc2) rfl
    · rw [hbl, h.alone hx]
      have e1 := hL.length_eq
      have e2 := hL'.length_eq
      rw [List.length_map, List.length_append] at e1
      rw [List.length_map] at e2
      unfold thP at e1
      rw [List.length_cons, List.length_map] at e1
      omega
    · unfold blksS
      rw [hg.1]

/-! ### TlsNumbers -/
theorem rel_ok {t : Ts} {L : List Rg} (h : SInv t L) {n : Int} {t' : Ts} {L' : List Rg} (hp : RelP t L n 0 t' L') : efind MdE.k t'.ml n = none ∧ t'.gl = t.gl ∧ 1 ≤ n ∧ n ≤ 64 := by
  unfold RelP at hp
  cases hf : efind MdE.k t.ml n with
  | none => rw [hf] at hp; exact absurd hp.1 (by decide)
  | some x =>
    rw [hf] at hp
    dsimp only at hp
    obtain ⟨hm, hk⟩ := efind_mem hf
    split at hp
    · exact absurd hp.1 (by decide)
    · obtain ⟨-, rfl, -⟩ := hp
      exact ⟨efind_none_of (edel_ne h.inv.good.km), rfl, by rw [← hk]; exact h.k1 x hm, by rw [← hk]; exact (h.inv.key x hm).1⟩
theorem addr_none {t : Ts} {L : List Rg} {id n off p r : Int} {t' : Ts} {L' : List Rg} (hf : efind MdE.k t.ml n = none) (hp : AddrP t L id n off p r t' L') : (r = 170 ∨ r = 171) ∧ t' = t ∧ L' = L := by
  unfold AddrP at hp
  split at hp
  · exact ⟨.inr hp.2.1, hp.2.2.1, hp.2.2.2⟩
  · rw [hf] at hp
    exact ⟨.inl hp.2.1, hp.2.2.1, hp.2.2.2⟩
theorem mszS_zero {l : List MdE} {n : Int} (h : efind MdE.k l n = none) : mszS l n = 0 := by unfold mszS; rw [h]; rfl
theorem free_le {l : List MdE} {n m : Int} (hm : FreeN l m) (h : efind MdE.k l n = none) (h1 : 1 ≤ n) : m ≤ n := by
  by_cases hle : m ≤ n
  · exact hle
  · have := hm.2.2.1 n h1 (by omega)
    rw [mszS_zero h] at this
    exact absurd this (by decide)
structure NumR (t t3 : Ts) (n k r id : Int) : Prop where
  bad : r ≠ 0 → k = 0 ∧ r = 1
  le : r = 0 → k ≤ n
  lo : r = 0 → 1 ≤ k
  gen : r = 0 → k = n → gget t3.gl n = wrap64 (gget t.gl n + 1)
  blks : r = 0 → ∀ b ∈ blksS t3 id, b.md ≠ k
theorem num_plain {t t2 : Ts} {L : List Rg} (h : SInv t2 L) {n : Int} (hf : efind MdE.k t2.ml n = none) (hgl : t2.gl = t.gl) (h1 : 1 ≤ n) (h64 : n ≤ 64) {tm : List UInt8} {size k r : Int} {t3 : Ts} (id : Int) (hp : RegP t2 tm size false k r t3) : NumR t t3 n k r id := by
  have h3 := h.reg hp
  by_cases hr : r = 0
  · subst hr
    obtain ⟨y, hy1, hy2, -, -, z1, z2, z3, hfr, hk64, hfk, v, rfl⟩ := reg_ok h hp
    refine ⟨fun hh => absurd rfl hh, fun _ => free_le hfr hf h1, fun _ => hfr.1, fun _ hkn => ?_, fun _ b hb hbk => ?_⟩
    · subst hkn
      show gget (gsetL t2 k (wrap64 (gget t2.gl k + 1))) k = _
      rw [gget_gset, if_pos rfl, hgl]
    · obtain ⟨x, n', hx, hn', hb⟩ := blks_mem hb
      have hxm := (efind_mem hx).1
      obtain ⟨m, c, r, B1⟩ := h3.blk_in hxm hb
      have hnk : n' = k := B1.md.symm.trans hbk
      subst hnk
      have hmy := B1.fm
      rw [hy1] at hmy
      obtain rfl := Option.some.inj hmy
      rcases B1.kind with ⟨s1, -⟩ | ⟨s1, e, he, hek, -⟩
      · rw [hy2] at s1; cases s1
      · obtain ⟨m', hm', -⟩ := h.bk x hxm e he
        rw [hek, hfk] at hm'
        cases hm'
  · refine ⟨fun _ => ⟨reg_err hp hr, ?_⟩, fun hh => absurd hh hr, fun hh => absurd hh hr, fun hh => absurd hh hr, fun hh => absurd hh hr⟩
    unfold RegP at hp
    split at hp
    · exact hp.2.1
    split at hp
    · rename_i hh; cases hh.1
    obtain ⟨m, hm, hp⟩ := hp
    have hle := free_le hm hf h1
    rw [if_neg (by omega), if_neg (by rintro ⟨hh, -⟩; cases hh)] at hp
    exact absurd hp.2.1 hr
end Go.Proofs.Ytpenejigebkkmaa
