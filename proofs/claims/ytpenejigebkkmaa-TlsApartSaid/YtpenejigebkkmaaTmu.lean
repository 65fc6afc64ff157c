/-
  Layer 17, plain: the regions of the space are the living threads' areas and blocks, and no others; each act keeps that.
  Conditions: none. (My own text.)
-/
import Derived.Test.YtpenejigebkkmaaTmr
import Derived.Test.YtpenejigebkkmaaPln
namespace Go.Proofs.Ytpenejigebkkmaa
open Go.RowKit Spm
set_option linter.unusedVariables false
set_option linter.unusedSimpArgs false

/-- A piece: where, how much, what for. -/
abbrev Pc := Int × Int × Int
def pcOf (r : Rg) : Pc := (r.at_, r.sz, r.pm)
def bkP (b : BkE) : Pc := (b.x.at_, up b.x.sz, 3)
def thP (ar : Int) (x : ThE) : List Pc := (x.tp, up (max 8 ar), 3) :: x.bl.map bkP
def pcs (ar : Int) (tl : List ThE) : List Pc := tl.flatMap (thP ar)

theorem modify_shp (f : Rg → Rg) (hf : ∀ r, pcOf (f r) = pcOf r) : ∀ (L : List Rg) (k : Nat), (L.modify k f).map pcOf = L.map pcOf
  | [], k => by simp
  | r :: L, 0 => by rw [List.modify_zero_cons, List.map_cons, List.map_cons, hf]
  | r :: L, k + 1 => by rw [List.modify_succ_cons, List.map_cons, List.map_cons, modify_shp f hf L k]
theorem set_shp (L : List Rg) (x : Int) (b : List UInt8) (p : Int) : (setS L x b p).1.map pcOf = L.map pcOf := by
  unfold setS
  split
  · rfl
  split
  · rfl
  show (L.modify (partK L x) fun r => { r with bs := over r.bs (x - r.at_).toNat b }).map pcOf = L.map pcOf
  exact modify_shp (fun r => { r with bs := over r.bs (x - r.at_).toNat b }) (fun _ => rfl) L _
theorem pokes_shp (q : Int) : ∀ (mz : List MdE) (L : List Rg), (pokes q L mz).map pcOf = L.map pcOf
  | [], L => rfl
  | y :: mz, L => (pokes_shp q mz _).trans (set_shp _ _ _ _)
theorem pokes_ok (q : Int) : ∀ (mz : List MdE) (L : List Rg), Ok L → Ok (pokes q L mz)
  | [], L, h => h
  | y :: mz, L, h => pokes_ok q mz _ (h.set _ _ _)
theorem mapS_parts {L : List Rg} {n p : Int} (he : (mapS L n p).2.2 = 0) : (gapS L n).2 = 0 ∧ 1 ≤ n ∧ n ≤ 1048576 ∧ 0 ≤ p ∧ p ≤ 7 := by
  by_cases hr : right n p = 0
  · obtain ⟨z1, z2, z3, z4⟩ := right_eq hr
    by_cases hg : (gapS L n).2 = 0
    · exact ⟨hg, z1, z2, z3, z4⟩
    · rw [map_full ⟨z3, z4⟩ hg] at he; exact absurd he hg
  · unfold mapS at he
    rw [if_pos hr] at he
    cases he
theorem mapS_perm {L : List Rg} (h : Ok L) {n p : Int} (he : (mapS L n p).2.2 = 0) : (mapS L n p).1.Perm (⟨(mapS L n p).2.1, up n, p, zeros (up n)⟩ :: L) := by
  obtain ⟨hg, z1, z2, z3, z4⟩ := mapS_parts he
  rw [map_gap h hg ⟨z3, z4⟩]
  simp only
  have h1 := List.perm_middle (a := (⟨(gapS L n).1, up n, p, zeros (up n)⟩ : Rg)) (l₁ := L.take (insP (gapS L n).1 L)) (l₂ := L.drop (insP (gapS L n).1 L))
  rwa [List.take_append_drop] at h1
theorem ats_nodup {L : List Rg} (h : Ok L) : (L.map (·.at_)).Nodup := by
  unfold List.Nodup
  rw [List.pairwise_map]
  refine List.Pairwise.imp_of_mem ?_ h.srt
  intro a b ha hb hab
  have := (h.each a ha).slo
  unfold Apart at hab
  omega
theorem unmapsS_ok : ∀ (az : List Int) (L : List Rg), Ok L → Ok (unmapsS L az)
  | [], L, h => h
  | a :: az, L, h => unmapsS_ok az _ (h.unmap a)
theorem unmapsS_filter : ∀ (az : List Int) (L : List Rg), Ok L → unmapsS L az = L.filter fun r => decide (r.at_ ∉ az)
  | [], L, h => by
    show L = _
    symm
    rw [List.filter_eq_self]
    intro r _
    simp
  | a :: az, L, h => by
    show unmapsS (unmapS L a).1 az = _
    rw [unmapsS_filter az _ (h.unmap a), unmap_filter h, List.filter_filter]
    congr 1
    funext r
    by_cases h1 : r.at_ = a <;> simp [h1]
/-- What goes: the pieces that are named. -/
theorem out_shp {L : List Rg} {A C : List Pc} (h : Ok L) (hp : (L.map pcOf).Perm (A ++ C)) {az : List Int} (hz : az.Perm (A.map (·.1))) : ((unmapsS L az).map pcOf).Perm C := by
  have hn : ((A ++ C).map (·.1)).Nodup := by
    have h1 : ((L.map pcOf).map (·.1)).Nodup := by
      rw [List.map_map]
      exact ats_nodup h
    exact (hp.map (·.1)).nodup_iff.1 h1
  rw [unmapsS_filter az L h]
  have e : (L.filter fun r => decide (r.at_ ∉ az)).map pcOf = (L.map pcOf).filter fun c => decide (c.1 ∉ az) := by
    rw [List.filter_map]
    rfl
  rw [e]
  refine (hp.filter _).trans ?_
  rw [List.filter_append]
  have e1 : A.filter (fun c => decide (c.1 ∉ az)) = [] := by
    rw [List.filter_eq_nil_iff]
    intro c hc
    simpa using hz.mem_iff.2 (List.mem_map_of_mem (f := (·.1)) hc)
  have e2 : C.filter (fun c => decide (c.1 ∉ az)) = C := by
    rw [List.filter_eq_self]
    intro c hc
    rw [decide_eq_true_iff]
    intro hm
    rw [List.map_append] at hn
    exact (List.nodup_append.1 hn).2.2 c.1 (hz.mem_iff.1 hm) c.1 (List.mem_map_of_mem (f := (·.1)) hc) rfl
  rw [e1, e2]
  exact List.Perm.refl _
theorem pcs_mid (ar : Int) (x : ThE) (l1 l2 : List ThE) : (pcs ar (l1 ++ x :: l2)).Perm (thP ar x ++ pcs ar (l1 ++ l2)) := by
  unfold pcs
  rw [List.flatMap_append, List.flatMap_append, List.flatMap_cons]
  exact List.perm_append_comm_assoc _ _ _

section
variable {α : Type} {key : α → Int}
theorem edel_sub (k : Int) : ∀ l : List α, (edel key l k).Sublist l
  | [] => List.Sublist.slnil
  | x :: l => by
    unfold edel
    by_cases hk : k = key x
    · rw [if_pos hk]; exact List.sublist_cons_self ..
    · rw [if_neg hk]; exact (edel_sub k l).cons_cons _
theorem edel_ne {k : Int} : ∀ {l : List α}, (l.map key).Nodup → ∀ y ∈ edel key l k, key y ≠ k
  | [], _, y, hy => by simp [edel] at hy
  | x :: l, hn, y, hy => by
    rw [List.map_cons, List.nodup_cons] at hn
    unfold edel at hy
    by_cases hk : k = key x
    · rw [if_pos hk] at hy
      exact fun e => hn.1 (by rw [← hk, ← e]; exact List.mem_map_of_mem hy)
    · rw [if_neg hk] at hy
      rcases List.mem_cons.1 hy with rfl | hy
      · exact fun e => hk e.symm
      · exact edel_ne hn.2 y hy
theorem efind_edel {k j : Int} (hj : j ≠ k) : ∀ {l : List α}, efind key (edel key l k) j = efind key l j
  | [] => rfl
  | x :: l => by
    unfold edel
    by_cases hk : k = key x
    · rw [if_pos hk]
      conv => rhs; unfold efind
      rw [if_neg (by rw [← hk]; exact hj)]
    · rw [if_neg hk]
      conv => lhs; unfold efind
      conv => rhs; unfold efind
      rw [efind_edel hj]
theorem efind_app {k : Int} {x : α} {m : List α} : ∀ {l : List α}, efind key l k = some x → efind key (l ++ m) k = some x
  | [], h => by cases h
  | y :: l, h => by
    show efind key (y :: (l ++ m)) k = some x
    unfold efind at h ⊢
    by_cases hk : k = key y
    · rw [if_pos hk] at h ⊢; exact h
    · rw [if_neg hk] at h ⊢; exact efind_app h
theorem efind_app_none {k : Int} {m : List α} : ∀ {l : List α}, efind key l k = none → efind key (l ++ m) k = efind key m k
  | [], h => rfl
  | y :: l, h => by
    have e : efind key (y :: (l ++ m)) k = if k = key y then some y else efind key (l ++ m) k := rfl
    show efind key (y :: (l ++ m)) k = _
    unfold efind at h
    by_cases hk : k = key y
    · rw [if_pos hk] at h; cases h
    · rw [if_neg hk] at h
      rw [e, if_neg hk]
      exact efind_app_none h
theorem efind_of_mem {x : α} : ∀ {l : List α}, (l.map key).Nodup → x ∈ l → efind key l (key x) = some x
  | [], _, h => by simp at h
  | y :: l, hn, h => by
    rw [List.map_cons, List.nodup_cons] at hn
    unfold efind
    rcases List.mem_cons.1 h with rfl | h
    · rw [if_pos rfl]
    · rw [if_neg (fun e => hn.1 (by rw [← e]; exact List.mem_map_of_mem h))]
      exact efind_of_mem hn.2 h
theorem efind_none_of {k : Int} : ∀ {l : List α}, (∀ y ∈ l, key y ≠ k) → efind key l k = none
  | [], _ => rfl
  | y :: l, h => by
    unfold efind
    rw [if_neg (fun e => h y (by simp) e.symm)]
    exact efind_none_of (fun z hz => h z (by simp [hz]))
theorem efind_none_ne {k : Int} : ∀ {l : List α}, efind key l k = none → ∀ y ∈ l, key y ≠ k
  | [], _, y, hy => by simp at hy
  | z :: l, h, y, hy => by
    unfold efind at h
    by_cases hk : k = key z
    · rw [if_pos hk] at h; cases h
    · rw [if_neg hk] at h
      rcases List.mem_cons.1 hy with rfl | hy
      · exact fun e => hk e.symm
      · exact efind_none_ne h y hy
end

theorem TsGood.kb {t : Ts} (h : TsGood t) {x : ThE} (hx : x ∈ t.tl) : (x.bl.map BkE.k).Nodup := by
  have := (h.gdb x hx).keys
  rw [List.map_map] at this
  exact this
theorem TsGood.kt {t : Ts} (h : TsGood t) : (t.tl.map ThE.k).Nodup := by
  have := h.gdt.keys
  rw [List.map_map] at this
  exact this
theorem TsGood.km {t : Ts} (h : TsGood t) : (t.ml.map MdE.k).Nodup := by
  have := h.gdm.keys
  rw [List.map_map] at this
  exact this

/-- A block is of a module that is there. -/
def BkOk (ml : List MdE) (b : BkE) : Prop := ∃ m, efind MdE.k ml b.k = some m ∧ m.x.st = false ∧ b.x.md = b.k ∧ b.x.gn = m.x.gen ∧ b.x.sz = m.x.size
structure SInv (t : Ts) (L : List Rg) : Prop where
  inv : TInv t
  ok : Ok L
  shp : (L.map pcOf).Perm (pcs t.ar t.tl)
  bk : ∀ x ∈ t.tl, ∀ b ∈ x.bl, BkOk t.ml b
  sd : t.sd = false → t.tl = []
  th : ∀ x ∈ t.tl, 0 ≤ x.k ∧ x.k < 16
  a0 : 0 ≤ t.ar
  a1 : t.ar ≤ 4096
  k1 : ∀ m ∈ t.ml, 1 ≤ m.k
  sta : ∀ m ∈ t.ml, m.x.st = true → 0 ≤ m.x.bh ∧ m.x.bh + upT m.x.size ≤ t.ar
  apart : t.ml.Pairwise fun a b => a.x.st = true → b.x.st = true → a.x.bh + upT a.x.size ≤ b.x.bh
theorem SInv.new (gm gg gt : Nat) : SInv (ts0 gm gg gt) [] :=
  ⟨TInv.new gm gg gt, Ok.nil, List.Perm.refl _, fun x hx => by simp [ts0] at hx, fun _ => rfl, fun x hx => by simp [ts0] at hx, Int.le_refl _, by show (0 : Int) ≤ 4096; decide, fun m hm => by simp [ts0] at hm, fun m hm => by simp [ts0] at hm, List.Pairwise.nil⟩
theorem SInv.exit {t : Ts} {L : List Rg} {id r : Int} {t' : Ts} {L' : List Rg} (h : SInv t L) (hp : ExitP t L id r t' L') : SInv t' L' := by
  have hi := h.inv.exit hp
  unfold ExitP at hp
  cases hf : efind ThE.k t.tl id with
  | none => rw [hf] at hp; obtain ⟨-, rfl, rfl⟩ := hp; exact h
  | some x =>
    rw [hf] at hp
    obtain ⟨-, rfl, az, hz, rfl⟩ := hp
    obtain ⟨l1, l2, hl, hdel, hkx, -⟩ := efind_split hf
    have e : (unmapS (unmapsS L az) x.tp).1 = unmapsS L (az ++ [x.tp]) := (unmapsS_snoc _ _ _).symm
    have hs := h.shp
    rw [hl] at hs
    refine ⟨hi, ?_, ?_, fun y hy => h.bk y (edel_mem hy), fun hh => ?_, fun y hy => h.th y (edel_mem hy), h.a0, h.a1, h.k1, h.sta, h.apart⟩
    · rw [e]; exact unmapsS_ok _ _ h.ok
    · show ((unmapS (unmapsS L az) x.tp).1.map _).Perm (pcs t.ar (edel ThE.k t.tl id))
      rw [e, hdel]
      refine out_shp h.ok (hs.trans (pcs_mid t.ar x l1 l2)) ?_
      unfold thP
      rw [List.map_cons, List.map_map]
      exact (hz.append_right [x.tp]).trans List.perm_append_comm
    · have := h.sd hh
      rw [this] at hf
      cases hf
/-- What goes with a module. -/
def gBl (n : Int) (y : ThE) : List Pc := ((efind BkE.k y.bl n).map bkP).toList
theorem gBl_fst (n : Int) : ∀ tl : List ThE, (tl.flatMap (gBl n)).map (·.1) = gath n tl
  | [] => rfl
  | y :: tl => by
    rw [List.flatMap_cons, List.map_append, gBl_fst n tl]
    unfold gath gBl
    rw [List.filterMap_cons]
    cases efind BkE.k y.bl n <;> rfl
theorem thP_drop (ar n : Int) (y : ThE) : (thP ar y).Perm (gBl n y ++ thP ar (dropB n y)) := by
  cases hf : efind BkE.k y.bl n with
  | none => rw [dropB_no hf]; unfold gBl; rw [hf]; exact List.Perm.refl _
  | some b =>
    obtain ⟨l1, l2, hl, hdel, -, -⟩ := efind_split hf
    unfold gBl thP dropB
    rw [hf, hdel, hl]
    simp only [Option.map_some, Option.toList_some, List.map_append, List.map_cons, List.singleton_append]
    refine List.Perm.trans ?_ (List.Perm.swap _ _ _)
    exact List.Perm.cons _ List.perm_middle
theorem pcs_drop (ar n : Int) : ∀ tl : List ThE, (pcs ar tl).Perm (tl.flatMap (gBl n) ++ pcs ar (tl.map (dropB n)))
  | [] => List.Perm.refl _
  | y :: tl => by
    unfold pcs
    rw [List.flatMap_cons, List.flatMap_cons, List.map_cons, List.flatMap_cons, List.append_assoc]
    refine ((thP_drop ar n y).append (pcs_drop ar n tl)).trans ?_
    rw [List.append_assoc]
    exact (List.perm_append_comm_assoc _ _ _).append_left _
theorem SInv.rel {t : Ts} {L : List Rg} {n r : Int} {t' : Ts} {L' : List Rg} (h : SInv t L) (hp : RelP t L n r t' L') : SInv t' L' := by
  have hi := h.inv.rel hp
  unfold RelP at hp
  cases hf : efind MdE.k t.ml n with
  | none => rw [hf] at hp; obtain ⟨-, rfl, rfl⟩ := hp; exact h
  | some x =>
    rw [hf] at hp
    dsimp only at hp
    split at hp
    · obtain ⟨-, rfl, rfl⟩ := hp; exact h
    · obtain ⟨-, rfl, az, hz, rfl⟩ := hp
      refine ⟨hi, unmapsS_ok _ _ h.ok, ?_, fun y hy b hb => ?_, fun hh => ?_, fun y hy => ?_, h.a0, h.a1, fun m hm => h.k1 m (edel_mem hm), fun m hm => h.sta m (edel_mem hm), h.apart.sublist (edel_sub n t.ml)⟩
      · refine out_shp h.ok (h.shp.trans (pcs_drop t.ar n t.tl)) ?_
        rw [gBl_fst]
        exact hz
      · obtain ⟨z, hz1, rfl⟩ := List.mem_map.1 hy
        have hne := edel_ne (h.inv.good.kb hz1) b hb
        obtain ⟨m, h1, h2⟩ := h.bk z hz1 b (edel_mem hb)
        exact ⟨m, by show efind MdE.k (edel MdE.k t.ml n) b.k = some m; rw [efind_edel hne]; exact h1, h2⟩
      · show t.tl.map (dropB n) = []
        rw [h.sd hh]
        rfl
      · obtain ⟨z, hz1, rfl⟩ := List.mem_map.1 hy
        exact h.th z hz1
theorem SInv.start {t : Ts} {L : List Rg} {id n r : Int} {t' : Ts} {L' : List Rg} (h : SInv t L) (hp : StartP t L id n r t' L') : SInv t' L' := by
  have hi := h.inv.start hp
  unfold StartP at hp
  split at hp
  · obtain ⟨-, -, rfl, rfl⟩ := hp; exact h
  · rename_i hn
    split at hp
    · rename_i he
      obtain ⟨-, -, ⟨g, rfl⟩, mz, hz, rfl⟩ := hp
      refine ⟨hi, pokes_ok _ _ _ (h.ok.map _ _), ?_, fun y hy b hb => ?_, fun hh => (by cases hh), fun y hy => ?_, h.a0, h.a1, h.k1, h.sta, h.apart⟩
      · rw [pokes_shp]
        refine ((mapS_perm h.ok he).map pcOf).trans ?_
        show (List.map pcOf (_ :: L)).Perm (pcs t.ar (t.tl ++ [_]))
        unfold pcs
        rw [List.map_cons, List.flatMap_append]
        refine List.Perm.trans ?_ List.perm_append_comm
        exact h.shp.cons _
      · rcases List.mem_append.1 hy with hy | hy
        · exact h.bk y hy b hb
        · obtain rfl := List.mem_singleton.1 hy
          simp at hb
      · rcases List.mem_append.1 hy with hy | hy
        · exact h.th y hy
        · obtain rfl := List.mem_singleton.1 hy
          show 0 ≤ id ∧ id < 16
          omega
    · rename_i he
      obtain ⟨-, -, rfl, rfl⟩ := hp
      rw [map_refused he]
      exact h
theorem addB_split {id n : Int} {x : ThE} {y : MdE} {q : Int} {tl : List ThE} (hf : efind ThE.k tl id = some x) : ∃ l1 l2, tl = l1 ++ x :: l2 ∧ addB id n x y q tl = l1 ++ ⟨id, x.tp, x.g, x.bl ++ [newB n y q x.c], x.c + 1, x.b⟩ :: l2 ∧ x.k = id := by
  obtain ⟨l1, l2, hl, -, hkx, hset⟩ := efind_split hf
  exact ⟨l1, l2, hl, by unfold addB; exact hset _ _ _, hkx⟩
theorem SInv.addr {t : Ts} {L : List Rg} {id n off p r : Int} {t' : Ts} {L' : List Rg} (h : SInv t L) (hp : AddrP t L id n off p r t' L') : SInv t' L' := by
  have hi := h.inv.addr hp
  unfold AddrP at hp
  cases hf : efind ThE.k t.tl id with
  | none => rw [hf] at hp; obtain ⟨-, -, rfl, rfl⟩ := hp; exact h
  | some x =>
    rw [hf] at hp
    dsimp only at hp
    cases hm : efind MdE.k t.ml n with
    | none => rw [hm] at hp; obtain ⟨-, -, rfl, rfl⟩ := hp; exact h
    | some y =>
      rw [hm] at hp
      dsimp only at hp
      split at hp
      · obtain ⟨-, -, rfl, rfl⟩ := hp; exact h
      · split at hp
        · obtain ⟨-, -, rfl, rfl⟩ := hp; exact h
        · rename_i hst
          unfold AddrBP at hp
          cases hb : efind BkE.k x.bl n with
          | some b => rw [hb] at hp; obtain ⟨-, -, rfl, rfl⟩ := hp; exact h
          | none =>
            rw [hb] at hp
            dsimp only at hp
            split at hp
            · rename_i he
              obtain ⟨-, -, rfl, rfl⟩ := hp
              obtain ⟨l1, l2, hl, hadd, hkx⟩ := addB_split (n := n) (y := y) (q := (mapS L y.x.size 3).2.1) hf
              have hx : x ∈ t.tl := (efind_mem hf).1
              have hmem : ∀ z ∈ addB id n x y (mapS L y.x.size 3).2.1 t.tl, z = ⟨id, x.tp, x.g, x.bl ++ [newB n y (mapS L y.x.size 3).2.1 x.c], x.c + 1, x.b⟩ ∨ z ∈ t.tl := by
                intro z hz
                rw [hadd] at hz
                rw [hl]
                simp only [List.mem_append, List.mem_cons] at hz ⊢
                rcases hz with hz | hz | hz
                · exact .inr (.inl hz)
                · exact .inl hz
                · exact .inr (.inr (.inr hz))
              refine ⟨hi, (h.ok.map _ _).set _ _ _, ?_, fun z hz b hb2 => ?_, fun hh => ?_, fun z hz => ?_, h.a0, h.a1, h.k1, h.sta, h.apart⟩
              · rw [set_shp]
                refine ((mapS_perm h.ok he).map pcOf).trans ?_
                show (List.map pcOf (_ :: L)).Perm (pcs t.ar (addB id n x y (mapS L y.x.size 3).2.1 t.tl))
                rw [hadd, List.map_cons]
                refine List.Perm.trans ?_ (pcs_mid t.ar _ l1 l2).symm
                have hs := h.shp
                rw [hl] at hs
                refine ((hs.trans (pcs_mid t.ar x l1 l2)).cons _).trans ?_
                unfold thP
                rw [List.map_append]
                refine List.Perm.trans ?_ (List.Perm.append_right _ (List.Perm.cons _ List.perm_append_comm))
                exact List.Perm.swap _ _ _
              · rcases hmem z hz with rfl | hz
                · rcases List.mem_append.1 hb2 with hb2 | hb2
                  · exact h.bk x hx b hb2
                  · obtain rfl := List.mem_singleton.1 hb2
                    exact ⟨y, hm, by simpa using hst, rfl, rfl, rfl⟩
                · exact h.bk z hz b hb2
              · have := h.sd hh
                rw [this] at hx
                simp at hx
              · rcases hmem z hz with rfl | hz
                · have := h.th x hx
                  rw [hkx] at this
                  exact this
                · exact h.th z hz
            · rename_i he
              obtain ⟨-, -, rfl, rfl⟩ := hp
              rw [map_refused he]
              exact h
theorem SInv.gset {t : Ts} {L : List Rg} (h : SInv t L) (n v : Int) : SInv (gsetT t n v) L := ⟨⟨h.inv.good.gset n v, h.inv.ok, h.inv.key⟩, h.ok, h.shp, h.bk, h.sd, h.th, h.a0, h.a1, h.k1, h.sta, h.apart⟩
theorem upT_nn {n : Int} (h : 1 ≤ n) : n ≤ upT n ∧ upT n < n + 8 := by unfold upT; omega
theorem SInv.reg {t : Ts} {L : List Rg} {tm : List UInt8} {size : Int} {st : Bool} {n r : Int} {t' : Ts} (h : SInv t L) (hp : RegP t tm size st n r t') : SInv t' L := by
  have hi := h.inv.reg hp
  unfold RegP at hp
  split at hp
  · obtain ⟨-, -, rfl⟩ := hp; exact h
  rename_i hbad
  split at hp
  · obtain ⟨-, -, rfl⟩ := hp; exact h
  rename_i hsd
  obtain ⟨m, hm, hp⟩ := hp
  split at hp
  · obtain ⟨-, -, rfl⟩ := hp; exact h
  rename_i h64
  split at hp
  · obtain ⟨-, -, rfl⟩ := hp
    exact (h.gset _ _).gset _ _
  rename_i hfull
  obtain ⟨-, -, v, rfl⟩ := hp
  have a0 := h.a0
  have a1 := h.a1
  obtain ⟨u1, u2⟩ := upT_nn (n := size) (by omega)
  have hbk : ∀ x ∈ t.tl, ∀ b ∈ x.bl, BkOk (t.ml ++ [newM t m tm size st v]) b := fun x hx b hb => by
    obtain ⟨y, h1, h2⟩ := h.bk x hx b hb
    exact ⟨y, efind_app h1, h2⟩
  have hk1 : ∀ y ∈ t.ml ++ [newM t m tm size st v], 1 ≤ y.k := fun y hy => by
    rcases List.mem_append.1 hy with hy | hy
    · exact h.k1 y hy
    · obtain rfl := List.mem_singleton.1 hy
      exact hm.1
  cases st with
  | false =>
    refine ⟨hi, h.ok, h.shp, hbk, h.sd, h.th, h.a0, h.a1, hk1, fun y hy hs => ?_, ?_⟩
    · rcases List.mem_append.1 hy with hy | hy
      · exact h.sta y hy hs
      · obtain rfl := List.mem_singleton.1 hy
        cases hs
    · show (t.ml ++ [_]).Pairwise _
      rw [List.pairwise_append]
      refine ⟨h.apart, List.pairwise_singleton .., fun a _ b hb => ?_⟩
      obtain rfl := List.mem_singleton.1 hb
      intro _ hs
      cases hs
  | true =>
    have hsf : t.sd = false := by
      cases hh : t.sd with
      | false => rfl
      | true => exact absurd ⟨rfl, hh⟩ hsd
    have htl := h.sd hsf
    have hw : wrap64 (4096 - t.ar) = 4096 - t.ar := by simp only [wrap64]; omega
    have hle : t.ar + upT size ≤ 4096 := by
      rw [hw] at hfull
      have : ¬ (4096 - t.ar < upT size) := fun hh => hfull ⟨rfl, hh⟩
      omega
    have hw2 : wrap64 (t.ar + upT size) = t.ar + upT size := by simp only [wrap64]; omega
    have har : (regT t m tm size true v).ar = t.ar + upT size := hw2
    have hL := h.shp
    rw [htl] at hL
    refine ⟨hi, h.ok, ?_, hbk, h.sd, h.th, by rw [har]; omega, by rw [har]; omega, hk1, fun y hy hs => ?_, ?_⟩
    · show (L.map pcOf).Perm (pcs _ t.tl)
      rw [htl]
      exact hL
    · rw [har]
      rcases List.mem_append.1 hy with hy | hy
      · have := h.sta y hy hs
        omega
      · obtain rfl := List.mem_singleton.1 hy
        exact ⟨a0, Int.le_refl _⟩
    · show (t.ml ++ [_]).Pairwise _
      rw [List.pairwise_append]
      refine ⟨h.apart, List.pairwise_singleton .., fun a ha b hb => ?_⟩
      obtain rfl := List.mem_singleton.1 hb
      intro hs _
      exact (h.sta a ha hs).2
theorem SInv.set {t : Ts} {L : List Rg} (h : SInv t L) (x : Int) (b : List UInt8) (p : Int) : SInv t (setS L x b p).1 := ⟨h.inv, h.ok.set _ _ _, by rw [set_shp]; exact h.shp, h.bk, h.sd, h.th, h.a0, h.a1, h.k1, h.sta, h.apart⟩
theorem SInv.does {x : TAct} {t : Ts} {L : List Rg} {n r : Int} {t' : Ts} {L' : List Rg} (h : SInv t L) (hp : DoesT x t L n r t' L') : SInv t' L' := by
  unfold DoesT at hp
  split at hp
  · obtain ⟨hp, rfl⟩ := hp; exact h.reg hp
  split at hp
  · exact h.rel hp.2
  split at hp
  · exact h.start hp
  split at hp
  · exact h.exit hp.2
  split at hp
  · obtain ⟨L1, hp, rfl⟩ := hp
    split
    · exact (h.addr hp).set _ _ _
    · exact h.addr hp
  · obtain ⟨-, -, rfl, rfl⟩ := hp; exact h
theorem PlayT.sinv {l : List TAct} {t : Ts} {L : List Rg} (h : PlayT l t L) : SInv t L := by
  induction h with
  | nil gm gg gt => exact SInv.new gm gg gt
  | snoc _ hd ih => exact ih.does hd
end Go.Proofs.Ytpenejigebkkmaa
