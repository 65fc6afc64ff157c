/-
  Layer 17, plain: the regions of the space are the living threads' areas and blocks, and no others; each act keeps that.
  Layer 17, plain: where addresses lie; TlsOwn's and TlsFresh's laws.
  Layer 17: the numbers of the modules, sorted (maps.Keys, slices.Sorted).
  Layer 17: tls.Blocks.
  Layer 17, plain: where the blocks lie; the laws of TlsNumbers, TlsGone, TlsApart.
  Layer 17: tls.Static.
  Conditions: none. (My own text.)
-/
import Derived.Test.YtpenejigebkkmaaGreatTgb
import Derived.Test.YtpenejigebkkmaaGreatPln
import Derived.Test.YtpenejigebkkmaaGreatTga
import Derived.Test.YtpenejigebkkmaaGreatTmg
import Derived.Test.YtpenejigebkkmaaGreatShp
import Derived.Test.YtpenejigebkkmaaGreatTmi
namespace Go.Proofs.YtpenejigebkkmaaGreat
open Go.RowKit Spm
set_option linter.unusedVariables false
set_option linter.unusedSimpArgs false

/-- A piece: where, how much, what for. -/
abbrev Pc := Int × Int × Int
def pcOf (r : Rg) : Pc := (r.at_, r.sz, r.pm)
def bkP (b : BkE) : Pc := (b.x.at_, up b.x.sz, 3)
def thP (ar : Int) (x : ThE) : List Pc := (x.tp, up (max 8 ar), 3) :: x.bl.map bkP
def pcs (ar : Int) (tl : List ThE) : List Pc := tl.flatMap (thP ar)

theorem modify_shp (f : Rg → Rg) (hf : ∀ r, pcOf (f r) = pcOf r) : ∀ (L : List Rg) (k : Nat), (L.modify k f).map pcOf = L.map pcOf
  | [], k => by simp
  | r :: L, 0 => by rw [List.modify_zero_cons, List.map_cons, List.map_cons, hf]
  | r :: L, k + 1 => by rw [List.modify_succ_cons, List.map_cons, List.map_cons, modify_shp f hf L k]
theorem set_shp (L : List Rg) (x : Int) (b : List UInt8) (p : Int) : (setS L x b p).1.map pcOf = L.map pcOf := by
  unfold setS
  split
  · rfl
  split
  · rfl
  show (L.modify (partK L x) fun r => { r with bs := over r.bs (x - r.at_).toNat b }).map pcOf = L.map pcOf
  exact modify_shp (fun r => { r with bs := over r.bs (x - r.at_).toNat b }) (fun _ => rfl) L _
theorem pokes_shp (q : Int) : ∀ (mz : List MdE) (L : List Rg), (pokes q L mz).map pcOf = L.map pcOf
  | [], L => rfl
  | y :: mz, L => (pokes_shp q mz _).trans (set_shp _ _ _ _)
theorem pokes_ok (q : Int) : ∀ (mz : List MdE) (L : List Rg), Ok L → Ok (pokes q L mz)
  | [], L, h => h
  | y :: mz, L, h => pokes_ok q mz _ (h.set _ _ _)
theorem mapS_parts {L : List Rg} {n p : Int} (he : (mapS L n p).2.2 = 0) : (gapS L n).2 = 0 ∧ 1 ≤ n ∧ n ≤ 1048576 ∧ 0 ≤ p ∧ p ≤ 7 := by
  by_cases hr : right n p = 0
  · obtain ⟨z1, z2, z3, z4⟩ := right_eq hr
    by_cases hg : (gapS L n).2 = 0
    · exact ⟨hg, z1, z2, z3, z4⟩
    · rw [map_full ⟨z3, z4⟩ hg] at he; exact absurd he hg
  · unfold mapS at he
    rw [if_pos hr] at he
    cases he
theorem mapS_perm {L : List Rg} (h : Ok L) {n p : Int} (he : (mapS L n p).2.2 = 0) : (mapS L n p).1.Perm (⟨(mapS L n p).2.1, up n, p, zeros (up n)⟩ :: L) := by
  obtain ⟨hg, z1, z2, z3, z4⟩ := mapS_parts he
  rw [map_gap h hg ⟨z3, z4⟩]
  simp only
  have h1 := List.perm_middle (a := (⟨(gapS L n).1, up n, p, zeros (up n)⟩ : Rg)) (l₁ := L.take (insP (gapS L n).1 L)) (l₂ := L.drop (insP (gapS L n).1 L))
  rwa [List.take_append_drop] at h1
theorem ats_nodup {L : List Rg} (h : Ok L) : (L.map (·.at_)).Nodup := by
  unfold List.Nodup
  rw [List.pairwise_map]
  refine List.Pairwise.imp_of_mem ?_ h.srt
  intro a b ha hb hab
  have := (h.each a ha).slo
  unfold Apart at hab
  omega
theorem unmapsS_ok : ∀ (az : List Int) (L : List Rg), Ok L → Ok (unmapsS L az)
  | [], L, h => h
  | a :: az, L, h => unmapsS_ok az _ (h.unmap a)
theorem unmapsS_filter : ∀ (az : List Int) (L : List Rg), Ok L → unmapsS L az = L.filter fun r => decide (r.at_ ∉ az)
  | [], L, h => by
    show L = _
    symm
    rw [List.filter_eq_self]
    intro r _
    simp
  | a :: az, L, h => by
    show unmapsS (unmapS L a).1 az = _
    rw [unmapsS_filter az _ (h.unmap a), unmap_filter h, List.filter_filter]
    congr 1
    funext r
    by_cases h1 : r.at_ = a <;> simp [h1]
/-- What goes: the pieces that are named. -/
theorem out_shp {L : List Rg} {A C : List Pc} (h : Ok L) (hp : (L.map pcOf).Perm (A ++ C)) {az : List Int} (hz : az.Perm (A.map (·.1))) : ((unmapsS L az).map pcOf).Perm C := by
  have hn : ((A ++ C).map (·.1)).Nodup := by
    have h1 : ((L.map pcOf).map (·.1)).Nodup := by
      rw [List.map_map]
      exact ats_nodup h
    exact (hp.map (·.1)).nodup_iff.1 h1
  rw [unmapsS_filter az L h]
  have e : (L.filter fun r => decide (r.at_ ∉ az)).map pcOf = (L.map pcOf).filter fun c => decide (c.1 ∉ az) := by
    rw [List.filter_map]
    rfl
  rw [e]
  refine (hp.filter _).trans ?_
  rw [List.filter_append]
  have e1 : A.filter (fun c => decide (c.1 ∉ az)) = [] := by
    rw [List.filter_eq_nil_iff]
    intro c hc
    simpa using hz.mem_iff.2 (List.mem_map_of_mem (f := (·.1)) hc)
  have e2 : C.filter (fun c => decide (c.1 ∉ az)) = C := by
    rw [List.filter_eq_self]
    intro c hc
    rw [decide_eq_true_iff]
    intro hm
    rw [List.map_append] at hn
    exact (List.nodup_append.1 hn).2.2 c.1 (hz.mem_iff.1 hm) c.1 (List.mem_map_of_mem (f := (·.1)) hc) rfl
  rw [e1, e2]
  exact List.Perm.refl _
theorem pcs_mid (ar : Int) (x : ThE) (l1 l2 : List ThE) : (pcs ar (l1 ++ x :: l2)).Perm (thP ar x ++ pcs ar (l1 ++ l2)) := by
  unfold pcs
  rw [List.flatMap_append, List.flatMap_append, List.flatMap_cons]
  exact List.perm_append_comm_assoc _ _ _

section
variable {α : Type} {key : α → Int}
theorem edel_sub (k : Int) : ∀ l : List α, (edel key l k).Sublist l
  | [] => List.Sublist.slnil
  | x :: l => by
    unfold edel
    by_cases hk : k = key x
    · rw [if_pos hk]; exact List.sublist_cons_self ..
    · rw [if_neg hk]; exact (edel_sub k l).cons_cons _
theorem edel_ne {k : Int} : ∀ {l : List α}, (l.map key).Nodup → ∀ y ∈ edel key l k, key y ≠ k
  | [], _, y, hy => by simp [edel] at hy
  | x :: l, hn, y, hy => by
    rw [List.map_cons, List.nodup_cons] at hn
    unfold edel at hy
    by_cases hk : k = key x
    · rw [if_pos hk] at hy
      exact fun e => hn.1 (by rw [← hk, ← e]; exact List.mem_map_of_mem hy)
    · rw [if_neg hk] at hy
      rcases List.mem_cons.1 hy with rfl | hy
      · exact fun e => hk e.symm
      · exact edel_ne hn.2 y hy
theorem efind_edel {k j : Int} (hj : j ≠ k) : ∀ {l : List α}, efind key (edel key l k) j = efind key l j
  | [] => rfl
  | x :: l => by
    unfold edel
    by_cases hk : k = key x
    · rw [if_pos hk]
      conv => rhs; unfold efind
      rw [if_neg (by rw [← hk]; exact hj)]
    · rw [if_neg hk]
      conv => lhs; unfold efind
      conv => rhs; unfold efind
      rw [efind_edel hj]
theorem efind_app {k : Int} {x : α} {m : List α} : ∀ {l : List α}, efind key l k = some x → efind key (l ++ m) k = some x
  | [], h => by cases h
  | y :: l, h => by
    show efind key (y :: (l ++ m)) k = some x
    unfold efind at h ⊢
    by_cases hk : k = key y
    · rw [if_pos hk] at h ⊢; exact h
    · rw [if_neg hk] at h ⊢; exact efind_app h
theorem efind_app_none {k : Int} {m : List α} : ∀ {l : List α}, efind key l k = none → efind key (l ++ m) k = efind key m k
  | [], h => rfl
  | y :: l, h => by
    have e : efind key (y :: (l ++ m)) k = if k = key y then some y else efind key (l ++ m) k := rfl
    show efind key (y :: (l ++ m)) k = _
    unfold efind at h
    by_cases hk : k = key y
    · rw [if_pos hk] at h; cases h
    · rw [if_neg hk] at h
      rw [e, if_neg hk]
      exact efind_app_none h
theorem efind_of_mem {x : α} : ∀ {l : List α}, (l.map key).Nodup → x ∈ l → efind key l (key x) = some x
  | [], _, h => by simp at h
  | y :: l, hn, h => by
    rw [List.map_cons, List.nodup_cons] at hn
    unfold efind
    rcases List.mem_cons.1 h with rfl | h
    · rw [if_pos rfl]
    · rw [if_neg (fun e => hn.1 (by rw [← e]; exact List.mem_map_of_mem h))]
      exact efind_of_mem hn.2 h
theorem efind_none_of {k : Int} : ∀ {l : List α}, (∀ y ∈ l, key y ≠ k) → efind key l k = none
  | [], _ => rfl
  | y :: l, h => by
    unfold efind
    rw [if_neg (fun e => h y (by simp) e.symm)]
    exact efind_none_of (fun z hz => h z (by simp [hz]))
theorem efind_none_ne {k : Int} : ∀ {l : List α}, efind key l k = none → ∀ y ∈ l, key y ≠ k
  | [], _, y, hy => by simp at hy
  | z :: l, h, y, hy => by
    unfold efind at h
    by_cases hk : k = key z
    · rw [if_pos hk] at h; cases h
    · rw [if_neg hk] at h
      rcases List.mem_cons.1 hy with rfl | hy
      · exact fun e => hk e.symm
      · exact efind_none_ne h y hy
end

theorem TsGood.kb {t : Ts} (h : TsGood t) {x : ThE} (hx : x ∈ t.tl) : (x.bl.map BkE.k).Nodup := by
  have := (h.gdb x hx).keys
  rw [List.map_map] at this
  exact this
theorem TsGood.kt {t : Ts} (h : TsGood t) : (t.tl.map ThE.k).Nodup := by
  have := h.gdt.keys
  rw [List.map_map] at this
  exact this
theorem TsGood.km {t : Ts} (h : TsGood t) : (t.ml.map MdE.k).Nodup := by
  have := h.gdm.keys
  rw [List.map_map] at this
  exact this

/-- A block is of a module that is there. -/
def BkOk (ml : List MdE) (b : BkE) : Prop := ∃ m, efind MdE.k ml b.k = some m ∧ m.x.st = false ∧ b.x.md = b.k ∧ b.x.gn = m.x.gen ∧ b.x.sz = m.x.size
structure SInv (t : Ts) (L : List Rg) : Prop where
  inv : TInv t
  ok : Ok L
  shp : (L.map pcOf).Perm (pcs t.ar t.tl)
  bk : ∀ x ∈ t.tl, ∀ b ∈ x.bl, BkOk t.ml b
  sd : t.sd = false → t.tl = []
  th : ∀ x ∈ t.tl, 0 ≤ x.k ∧ x.k < 16
  a0 : 0 ≤ t.ar
  a1 : t.ar ≤ 4096
  k1 : ∀ m ∈ t.ml, 1 ≤ m.k
  sta : ∀ m ∈ t.ml, m.x.st = true → 0 ≤ m.x.bh ∧ m.x.bh + upT m.x.size ≤ t.ar
  apart : t.ml.Pairwise fun a b => a.x.st = true → b.x.st = true → a.x.bh + upT a.x.size ≤ b.x.bh
theorem SInv.new (gm gg gt : Nat) : SInv (ts0 gm gg gt) [] :=
  ⟨TInv.new gm gg gt, Ok.nil, List.Perm.refl _, fun x hx => by simp [ts0] at hx, fun _ => rfl, fun x hx => by simp [ts0] at hx, Int.le_refl _, by show (0 : Int) ≤ 4096; decide, fun m hm => by simp [ts0] at hm, fun m hm => by simp [ts0] at hm, List.Pairwise.nil⟩
theorem SInv.exit {t : Ts} {L : List Rg} {id r : Int} {t' : Ts} {L' : List Rg} (h : SInv t L) (hp : ExitP t L id r t' L') : SInv t' L' := by
  have hi := h.inv.exit hp
  unfold ExitP at hp
  cases hf : efind ThE.k t.tl id with
  | none => rw [hf] at hp; obtain ⟨-, rfl, rfl⟩ := hp; exact h
  | some x =>
    rw [hf] at hp
    obtain ⟨-, rfl, az, hz, rfl⟩ := hp
    obtain ⟨l1, l2, hl, hdel, hkx, -⟩ := efind_split hf
    have e : (unmapS (unmapsS L az) x.tp).1 = unmapsS L (az ++ [x.tp]) := (unmapsS_snoc _ _ _).symm
    have hs := h.shp
    rw [hl] at hs
    refine ⟨hi, ?_, ?_, fun y hy => h.bk y (edel_mem hy), fun hh => ?_, fun y hy => h.th y (edel_mem hy), h.a0, h.a1, h.k1, h.sta, h.apart⟩
    · rw [e]; exact unmapsS_ok _ _ h.ok
    · show ((unmapS (unmapsS L az) x.tp).1.map _).Perm (pcs t.ar (edel ThE.k t.tl id))
      rw [e, hdel]
      refine out_shp h.ok (hs.trans (pcs_mid t.ar x l1 l2)) ?_
      unfold thP
      rw [List.map_cons, List.map_map]
      exact (hz.append_right [x.tp]).trans List.perm_append_comm
    · have := h.sd hh
      rw [this] at hf
      cases hf
/-- What goes with a module. -/
def gBl (n : Int) (y : ThE) : List Pc := ((efind BkE.k y.bl n).map bkP).toList
theorem gBl_fst (n : Int) : ∀ tl : List ThE, (tl.flatMap (gBl n)).map (·.1) = gath n tl
  | [] => rfl
  | y :: tl => by
    rw [List.flatMap_cons, List.map_append, gBl_fst n tl]
    unfold gath gBl
    rw [List.filterMap_cons]
    cases efind BkE.k y.bl n <;> rfl
theorem thP_drop (ar n : Int) (y : ThE) : (thP ar y).Perm (gBl n y ++ thP ar (dropB n y)) := by
  cases hf : efind BkE.k y.bl n with
  | none => rw [dropB_no hf]; unfold gBl; rw [hf]; exact List.Perm.refl _
  | some b =>
    obtain ⟨l1, l2, hl, hdel, -, -⟩ := efind_split hf
    unfold gBl thP dropB
    rw [hf, hdel, hl]
    simp only [Option.map_some, Option.toList_some, List.map_append, List.map_cons, List.singleton_append]
    refine List.Perm.trans ?_ (List.Perm.swap _ _ _)
    exact List.Perm.cons _ List.perm_middle
theorem pcs_drop (ar n : Int) : ∀ tl : List ThE, (pcs ar tl).Perm (tl.flatMap (gBl n) ++ pcs ar (tl.map (dropB n)))
  | [] => List.Perm.refl _
  | y :: tl => by
    unfold pcs
    rw [List.flatMap_cons, List.flatMap_cons, List.map_cons, List.flatMap_cons, List.append_assoc]
    refine ((thP_drop ar n y).append (pcs_drop ar n tl)).trans ?_
    rw [List.append_assoc]
    exact (List.perm_append_comm_assoc _ _ _).append_left _
theorem SInv.rel {t : Ts} {L : List Rg} {n r : Int} {t' : Ts} {L' : List Rg} (h : SInv t L) (hp : RelP t L n r t' L') : SInv t' L' := by
  have hi := h.inv.rel hp
  unfold RelP at hp
  cases hf : efind MdE.k t.ml n with
  | none => rw [hf] at hp; obtain ⟨-, rfl, rfl⟩ := hp; exact h
  | some x =>
    rw [hf] at hp
    dsimp only at hp
    split at hp
    · obtain ⟨-, rfl, rfl⟩ := hp; exact h
    · obtain ⟨-, rfl, az, hz, rfl⟩ := hp
      refine ⟨hi, unmapsS_ok _ _ h.ok, ?_, fun y hy b hb => ?_, fun hh => ?_, fun y hy => ?_, h.a0, h.a1, fun m hm => h.k1 m (edel_mem hm), fun m hm => h.sta m (edel_mem hm), h.apart.sublist (edel_sub n t.ml)⟩
      · refine out_shp h.ok (h.shp.trans (pcs_drop t.ar n t.tl)) ?_
        rw [gBl_fst]
        exact hz
      · obtain ⟨z, hz1, rfl⟩ := List.mem_map.1 hy
        have hne := edel_ne (h.inv.good.kb hz1) b hb
        obtain ⟨m, h1, h2⟩ := h.bk z hz1 b (edel_mem hb)
        exact ⟨m, by show efind MdE.k (edel MdE.k t.ml n) b.k = some m; rw [efind_edel hne]; exact h1, h2⟩
      · show t.tl.map (dropB n) = []
        rw [h.sd hh]
        rfl
      · obtain ⟨z, hz1, rfl⟩ := List.mem_map.1 hy
        exact h.th z hz1
theorem SInv.start {t : Ts} {L : List Rg} {id n r : Int} {t' : Ts} {L' : List Rg} (h : SInv t L) (hp : StartP t L id n r t' L') : SInv t' L' := by
  have hi := h.inv.start hp
  unfold StartP at hp
  split at hp
  · obtain ⟨-, -, rfl, rfl⟩ := hp; exact h
  · rename_i hn
    split at hp
    · rename_i he
      obtain ⟨-, -, ⟨g, rfl⟩, mz, hz, rfl⟩ := hp
      refine ⟨hi, pokes_ok _ _ _ (h.ok.map _ _), ?_, fun y hy b hb => ?_, fun hh => (by cases hh), fun y hy => ?_, h.a0, h.a1, h.k1, h.sta, h.apart⟩
      · rw [pokes_shp]
        refine ((mapS_perm h.ok he).map pcOf).trans ?_
        show (List.map pcOf (_ :: L)).Perm (pcs t.ar (t.tl ++ [_]))
        unfold pcs
        rw [List.map_cons, List.flatMap_append]
        refine List.Perm.trans ?_ List.perm_append_comm
        exact h.shp.cons _
      · rcases List.mem_append.1 hy with hy | hy
        · exact h.bk y hy b hb
        · obtain rfl := List.mem_singleton.1 hy
          simp at hb
      · rcases List.mem_append.1 hy with hy | hy
        · exact h.th y hy
        · obtain rfl := List.mem_singleton.1 hy
          show 0 ≤ id ∧ id < 16
          omega
    · rename_i he
      obtain ⟨-, -, rfl, rfl⟩ := hp
      rw [map_refused he]
      exact h
theorem addB_split {id n : Int} {x : ThE} {y : MdE} {q : Int} {tl : List ThE} (hf : efind ThE.k tl id = some x) : ∃ l1 l2, tl = l1 ++ x :: l2 ∧ addB id n x y q tl = l1 ++ ⟨id, x.tp, x.g, x.bl ++ [newB n y q x.c], x.c + 1, x.b⟩ :: l2 ∧ x.k = id := by
  obtain ⟨l1, l2, hl, -, hkx, hset⟩ := efind_split hf
  exact ⟨l1, l2, hl, by unfold addB; exact hset _ _ _, hkx⟩
theorem SInv.addr {t : Ts} {L : List Rg} {id n off p r : Int} {t' : Ts} {L' : List Rg} (h : SInv t L) (hp : AddrP t L id n off p r t' L') : SInv t' L' := by
  have hi := h.inv.addr hp
  unfold AddrP at hp
  cases hf : efind ThE.k t.tl id with
  | none => rw [hf] at hp; obtain ⟨-, -, rfl, rfl⟩ := hp; exact h
  | some x =>
    rw [hf] at hp
    dsimp only at hp
    cases hm : efind MdE.k t.ml n with
    | none => rw [hm] at hp; obtain ⟨-, -, rfl, rfl⟩ := hp; exact h
    | some y =>
      rw [hm] at hp
      dsimp only at hp
      split at hp
      · obtain ⟨-, -, rfl, rfl⟩ := hp; exact h
      · split at hp
        · obtain ⟨-, -, rfl, rfl⟩ := hp; exact h
        · rename_i hst
          unfold AddrBP at hp
          cases hb : efind BkE.k x.bl n with
          | some b => rw [hb] at hp; obtain ⟨-, -, rfl, rfl⟩ := hp; exact h
          | none =>
            rw [hb] at hp
            dsimp only at hp
            split at hp
            · rename_i he
              obtain ⟨-, -, rfl, rfl⟩ := hp
              obtain ⟨l1, l2, hl, hadd, hkx⟩ := addB_split (n := n) (y := y) (q := (mapS L y.x.size 3).2.1) hf
              have hx : x ∈ t.tl := (efind_mem hf).1
              have hmem : ∀ z ∈ addB id n x y (mapS L y.x.size 3).2.1 t.tl, z = ⟨id, x.tp, x.g, x.bl ++ [newB n y (mapS L y.x.size 3).2.1 x.c], x.c + 1, x.b⟩ ∨ z ∈ t.tl := by
                intro z hz
                rw [hadd] at hz
                rw [hl]
                simp only [List.mem_append, List.mem_cons] at hz ⊢
                rcases hz with hz | hz | hz
                · exact .inr (.inl hz)
                · exact .inl hz
                · exact .inr (.inr (.inr hz))
              refine ⟨hi, (h.ok.map _ _).set _ _ _, ?_, fun z hz b hb2 => ?_, fun hh => ?_, fun z hz => ?_, h.a0, h.a1, h.k1, h.sta, h.apart⟩
              · rw [set_shp]
                refine ((mapS_perm h.ok he).map pcOf).trans ?_
                show (List.map pcOf (_ :: L)).Perm (pcs t.ar (addB id n x y (mapS L y.x.size 3).2.1 t.tl))
                rw [hadd, List.map_cons]
                refine List.Perm.trans ?_ (pcs_mid t.ar _ l1 l2).symm
                have hs := h.shp
                rw [hl] at hs
                refine ((hs.trans (pcs_mid t.ar x l1 l2)).cons _).trans ?_
                unfold thP
                rw [List.map_append]
                refine List.Perm.trans ?_ (List.Perm.append_right _ (List.Perm.cons _ List.perm_append_comm))
                exact List.Perm.swap _ _ _
              · rcases hmem z hz with rfl | hz
                · rcases List.mem_append.1 hb2 with hb2 | hb2
                  · exact h.bk x hx b hb2
                  · obtain rfl := List.mem_singleton.1 hb2
                    exact ⟨y, hm, by simpa using hst, rfl, rfl, rfl⟩
                · exact h.bk z hz b hb2
              · have := h.sd hh
                rw [this] at hx
                simp at hx
              · rcases hmem z hz with rfl | hz
                · have := h.th x hx
                  rw [hkx] at this
                  exact this
                · exact h.th z hz
            · rename_i he
              obtain ⟨-, -, rfl, rfl⟩ := hp
              rw [map_refused he]
              exact h
theorem SInv.gset {t : Ts} {L : List Rg} (h : SInv t L) (n v : Int) : SInv (gsetT t n v) L := ⟨⟨h.inv.good.gset n v, h.inv.ok, h.inv.key⟩, h.ok, h.shp, h.bk, h.sd, h.th, h.a0, h.a1, h.k1, h.sta, h.apart⟩
theorem upT_nn {n : Int} (h : 1 ≤ n) : n ≤ upT n ∧ upT n < n + 8 := by unfold upT; omega
theorem SInv.reg {t : Ts} {L : List Rg} {tm : List UInt8} {size : Int} {st : Bool} {n r : Int} {t' : Ts} (h : SInv t L) (hp : RegP t tm size st n r t') : SInv t' L := by
  have hi := h.inv.reg hp
  unfold RegP at hp
  split at hp
  · obtain ⟨-, -, rfl⟩ := hp; exact h
  rename_i hbad
  split at hp
  · obtain ⟨-, -, rfl⟩ := hp; exact h
  rename_i hsd
  obtain ⟨m, hm, hp⟩ := hp
  split at hp
  · obtain ⟨-, -, rfl⟩ := hp; exact h
  rename_i h64
  split at hp
  · obtain ⟨-, -, rfl⟩ := hp
    exact (h.gset _ _).gset _ _
  rename_i hfull
  obtain ⟨-, -, v, rfl⟩ := hp
  have a0 := h.a0
  have a1 := h.a1
  obtain ⟨u1, u2⟩ := upT_nn (n := size) (by omega)
  have hbk : ∀ x ∈ t.tl, ∀ b ∈ x.bl, BkOk (t.ml ++ [newM t m tm size st v]) b := fun x hx b hb => by
    obtain ⟨y, h1, h2⟩ := h.bk x hx b hb
    exact ⟨y, efind_app h1, h2⟩
  have hk1 : ∀ y ∈ t.ml ++ [newM t m tm size st v], 1 ≤ y.k := fun y hy => by
    rcases List.mem_append.1 hy with hy | hy
    · exact h.k1 y hy
    · obtain rfl := List.mem_singleton.1 hy
      exact hm.1
  cases st with
  | false =>
    refine ⟨hi, h.ok, h.shp, hbk, h.sd, h.th, h.a0, h.a1, hk1, fun y hy hs => ?_, ?_⟩
    · rcases List.mem_append.1 hy with hy | hy
      · exact h.sta y hy hs
      · obtain rfl := List.mem_singleton.1 hy
        cases hs
    · show (t.ml ++ [_]).Pairwise _
      rw [List.pairwise_append]
      refine ⟨h.apart, List.pairwise_singleton .., fun a _ b hb => ?_⟩
      obtain rfl := List.mem_singleton.1 hb
      intro _ hs
      cases hs
  | true =>
    have hsf : t.sd = false := by
      cases hh : t.sd with
      | false => rfl
      | true => exact absurd ⟨rfl, hh⟩ hsd
    have htl := h.sd hsf
    have hw : wrap64 (4096 - t.ar) = 4096 - t.ar := by simp only [wrap64]; omega
    have hle : t.ar + upT size ≤ 4096 := by
      rw [hw] at hfull
      have : ¬ (4096 - t.ar < upT size) := fun hh => hfull ⟨rfl, hh⟩
      omega
    have hw2 : wrap64 (t.ar + upT size) = t.ar + upT size := by simp only [wrap64]; omega
    have har : (regT t m tm size true v).ar = t.ar + upT size := hw2
    have hL := h.shp
    rw [htl] at hL
    refine ⟨hi, h.ok, ?_, hbk, h.sd, h.th, by rw [har]; omega, by rw [har]; omega, hk1, fun y hy hs => ?_, ?_⟩
    · show (L.map pcOf).Perm (pcs _ t.tl)
      rw [htl]
      exact hL
    · rw [har]
      rcases List.mem_append.1 hy with hy | hy
      · have := h.sta y hy hs
        omega
      · obtain rfl := List.mem_singleton.1 hy
        exact ⟨a0, Int.le_refl _⟩
    · show (t.ml ++ [_]).Pairwise _
      rw [List.pairwise_append]
      refine ⟨h.apart, List.pairwise_singleton .., fun a ha b hb => ?_⟩
      obtain rfl := List.mem_singleton.1 hb
      intro hs _
      exact (h.sta a ha hs).2
theorem SInv.set {t : Ts} {L : List Rg} (h : SInv t L) (x : Int) (b : List UInt8) (p : Int) : SInv t (setS L x b p).1 := ⟨h.inv, h.ok.set _ _ _, by rw [set_shp]; exact h.shp, h.bk, h.sd, h.th, h.a0, h.a1, h.k1, h.sta, h.apart⟩
theorem SInv.does {x : TAct} {t : Ts} {L : List Rg} {n r : Int} {t' : Ts} {L' : List Rg} (h : SInv t L) (hp : DoesT x t L n r t' L') : SInv t' L' := by
  unfold DoesT at hp
  split at hp
  · obtain ⟨hp, rfl⟩ := hp; exact h.reg hp
  split at hp
  · exact h.rel hp.2
  split at hp
  · exact h.start hp
  split at hp
  · exact h.exit hp.2
  split at hp
  · obtain ⟨L1, hp, rfl⟩ := hp
    split
    · exact (h.addr hp).set _ _ _
    · exact h.addr hp
  · obtain ⟨-, -, rfl, rfl⟩ := hp; exact h
theorem PlayT.sinv {l : List TAct} {t : Ts} {L : List Rg} (h : PlayT l t L) : SInv t L := by
  induction h with
  | nil gm gg gt => exact SInv.new gm gg gt
  | snoc _ hd ih => exact ih.does hd
end Go.Proofs.YtpenejigebkkmaaGreat

namespace Go.Proofs.YtpenejigebkkmaaGreat
open Go.RowKit Spm
set_option linter.unusedVariables false
set_option linter.unusedSimpArgs false

section
variable {α : Type} {key : α → Int}
theorem efind_eset_same {st : α → Nat} {mk : Nat → α} {c : Nat} {k : Int} (hmk : ∀ b, key (mk b) = k) {x : α} : ∀ {l : List α}, efind key l k = some x → efind key (eset key st mk c l k) k = some (mk (st x))
  | [], h => by cases h
  | y :: l, h => by
    unfold efind at h
    unfold eset
    by_cases hk : k = key y
    · rw [if_pos hk] at h ⊢
      obtain rfl := Option.some.inj h
      unfold efind
      rw [if_pos (hmk _).symm]
    · rw [if_neg hk] at h ⊢
      unfold efind
      rw [if_neg hk]
      exact efind_eset_same hmk h
theorem efind_eset_ne {st : α → Nat} {mk : Nat → α} {c : Nat} {k j : Int} (hmk : ∀ b, key (mk b) = k) (hj : j ≠ k) : ∀ {l : List α}, efind key (eset key st mk c l k) j = efind key l j
  | [] => by
    show efind key [mk c] j = none
    unfold efind
    rw [if_neg (by rw [hmk]; exact hj)]
    rfl
  | y :: l => by
    unfold eset
    by_cases hk : k = key y
    · rw [if_pos hk]
      unfold efind
      rw [if_neg (by rw [hmk]; exact hj), if_neg (by rw [← hk]; exact hj)]
    · rw [if_neg hk]
      unfold efind
      rw [efind_eset_ne hmk hj]
end
theorem addB_find {id n : Int} {x : ThE} {y : MdE} {q : Int} {tl : List ThE} (hx : efind ThE.k tl id = some x) : efind ThE.k (addB id n x y q tl) id = some ⟨id, x.tp, x.g, x.bl ++ [newB n y q x.c], x.c + 1, x.b⟩ := by
  unfold addB
  exact efind_eset_same (mk := fun b => (⟨id, x.tp, x.g, x.bl ++ [newB n y q x.c], x.c + 1, b⟩ : ThE)) (fun b => rfl) hx
theorem addB_find_ne {id id2 n : Int} {x : ThE} {y : MdE} {q : Int} {tl : List ThE} (hne : id ≠ id2) : efind ThE.k (addB id2 n x y q tl) id = efind ThE.k tl id := by
  unfold addB
  exact efind_eset_ne (mk := fun b => (⟨id2, x.tp, x.g, x.bl ++ [newB n y q x.c], x.c + 1, b⟩ : ThE)) (fun b => rfl) hne
/-- An address of a block that is there. -/
def AddrHas (t : Ts) (id n off p : Int) : Prop := ∃ x y, efind ThE.k t.tl id = some x ∧ efind MdE.k t.ml n = some y ∧ ¬ (off < 0 ∨ y.x.size ≤ off) ∧ ((y.x.st = true ∧ p = wrap64 (wrap64 (x.tp + y.x.bh) + off)) ∨ (¬ y.x.st = true ∧ ∃ b, efind BkE.k x.bl n = some b ∧ p = wrap64 (b.x.at_ + off)))
theorem has_addr {t : Ts} {L : List Rg} {id n off p p2 r2 : Int} {t2 : Ts} {L2 : List Rg} (h : AddrHas t id n off p) (hp : AddrP t L id n off p2 r2 t2 L2) : p2 = p ∧ r2 = 0 ∧ t2 = t ∧ L2 = L := by
  obtain ⟨x, y, hx, hy, ho, h⟩ := h
  unfold AddrP at hp
  rw [hx] at hp
  dsimp only at hp
  rw [hy] at hp
  dsimp only at hp
  rw [if_neg ho] at hp
  rcases h with ⟨h1, rfl⟩ | ⟨h1, b, hb, rfl⟩
  · rw [if_pos h1] at hp; exact hp
  · rw [if_neg h1] at hp
    unfold AddrBP at hp
    rw [hb] at hp
    exact hp
theorem addr_ml {t : Ts} {L : List Rg} {id n off p r : Int} {t' : Ts} {L' : List Rg} (hp : AddrP t L id n off p r t' L') : t'.ml = t.ml ∧ t'.ar = t.ar ∧ t'.gl = t.gl ∧ t'.sd = t.sd := by
  unfold AddrP at hp
  split at hp
  · obtain ⟨-, -, rfl, -⟩ := hp; exact ⟨rfl, rfl, rfl, rfl⟩
  split at hp
  · obtain ⟨-, -, rfl, -⟩ := hp; exact ⟨rfl, rfl, rfl, rfl⟩
  split at hp
  · obtain ⟨-, -, rfl, -⟩ := hp; exact ⟨rfl, rfl, rfl, rfl⟩
  split at hp
  · obtain ⟨-, -, rfl, -⟩ := hp; exact ⟨rfl, rfl, rfl, rfl⟩
  unfold AddrBP at hp
  split at hp
  · obtain ⟨-, -, rfl, -⟩ := hp; exact ⟨rfl, rfl, rfl, rfl⟩
  split at hp
  · obtain ⟨-, -, rfl, -⟩ := hp; exact ⟨rfl, rfl, rfl, rfl⟩
  · obtain ⟨-, -, rfl, -⟩ := hp; exact ⟨rfl, rfl, rfl, rfl⟩
theorem addr_has {t : Ts} {L : List Rg} {id n off p : Int} {t' : Ts} {L' : List Rg} (hp : AddrP t L id n off p 0 t' L') : AddrHas t' id n off p := by
  unfold AddrP at hp
  cases hx : efind ThE.k t.tl id with
  | none => rw [hx] at hp; exact absurd hp.2.1 (by decide)
  | some x =>
    rw [hx] at hp
    dsimp only at hp
    cases hy : efind MdE.k t.ml n with
    | none => rw [hy] at hp; exact absurd hp.2.1 (by decide)
    | some y =>
      rw [hy] at hp
      dsimp only at hp
      by_cases ho : off < 0 ∨ y.x.size ≤ off
      · rw [if_pos ho] at hp; exact absurd hp.2.1 (by decide)
      rw [if_neg ho] at hp
      by_cases hs : y.x.st = true
      · rw [if_pos hs] at hp
        obtain ⟨rfl, -, rfl, -⟩ := hp
        exact ⟨x, y, hx, hy, ho, .inl ⟨hs, rfl⟩⟩
      rw [if_neg hs] at hp
      unfold AddrBP at hp
      cases hb : efind BkE.k x.bl n with
      | some b =>
        rw [hb] at hp
        obtain ⟨rfl, -, rfl, -⟩ := hp
        exact ⟨x, y, hx, hy, ho, .inr ⟨hs, b, hb, rfl⟩⟩
      | none =>
        rw [hb] at hp
        dsimp only at hp
        by_cases he : (mapS L y.x.size 3).2.2 = 0
        · rw [if_pos he] at hp
          obtain ⟨rfl, -, rfl, -⟩ := hp
          refine ⟨_, y, addB_find hx, hy, ho, .inr ⟨hs, newB n y (mapS L y.x.size 3).2.1 x.c, ?_, rfl⟩⟩
          show efind BkE.k (x.bl ++ [_]) n = _
          rw [efind_app_none hb]
          unfold efind
          rw [if_pos (show n = (newB n y (mapS L y.x.size 3).2.1 x.c).k from rfl)]
        · rw [if_neg he] at hp
          exact absurd hp.2.1.symm he
theorem has_keep {t : Ts} {L : List Rg} {id id2 n off p n2 off2 p2 r2 : Int} {t2 : Ts} {L2 : List Rg} (h : AddrHas t id n off p) (hne : id ≠ id2) (hp : AddrP t L id2 n2 off2 p2 r2 t2 L2) : AddrHas t2 id n off p := by
  have hk : efind ThE.k t2.tl id = efind ThE.k t.tl id := by
    unfold AddrP at hp
    split at hp
    · obtain ⟨-, -, rfl, -⟩ := hp; rfl
    split at hp
    · obtain ⟨-, -, rfl, -⟩ := hp; rfl
    split at hp
    · obtain ⟨-, -, rfl, -⟩ := hp; rfl
    split at hp
    · obtain ⟨-, -, rfl, -⟩ := hp; rfl
    unfold AddrBP at hp
    split at hp
    · obtain ⟨-, -, rfl, -⟩ := hp; rfl
    split at hp
    · obtain ⟨-, -, rfl, -⟩ := hp
      exact addB_find_ne hne
    · obtain ⟨-, -, rfl, -⟩ := hp; rfl
  obtain ⟨x, y, hx, hy, h⟩ := h
  exact ⟨x, y, hk.trans hx, by rw [(addr_ml hp).1]; exact hy, h⟩
theorem addr_fail {t : Ts} {L : List Rg} {id n off p r : Int} {t' : Ts} {L' : List Rg} (hp : AddrP t L id n off p r t' L') (hr : r ≠ 0) : p = 0 ∧ t' = t ∧ L' = L := by
  unfold AddrP at hp
  split at hp
  · obtain ⟨rfl, -, rfl, rfl⟩ := hp; exact ⟨rfl, rfl, rfl⟩
  split at hp
  · obtain ⟨rfl, -, rfl, rfl⟩ := hp; exact ⟨rfl, rfl, rfl⟩
  split at hp
  · obtain ⟨rfl, -, rfl, rfl⟩ := hp; exact ⟨rfl, rfl, rfl⟩
  split at hp
  · exact absurd hp.2.1 hr
  unfold AddrBP at hp
  split at hp
  · exact absurd hp.2.1 hr
  split at hp
  · exact absurd hp.2.1 hr
  · rename_i he
    obtain ⟨rfl, -, rfl, rfl⟩ := hp
    exact ⟨rfl, rfl, map_refused he⟩
theorem addr_fun {t : Ts} {L : List Rg} {id n off p r p2 r2 : Int} {t' t2 : Ts} {L' L2 : List Rg} (hp : AddrP t L id n off p r t' L') (hq : AddrP t L id n off p2 r2 t2 L2) : p2 = p ∧ r2 = r := by
  unfold AddrP at hp hq
  cases hx : efind ThE.k t.tl id with
  | none => rw [hx] at hp hq; exact ⟨hq.1.trans hp.1.symm, hq.2.1.trans hp.2.1.symm⟩
  | some x =>
    rw [hx] at hp hq
    dsimp only at hp hq
    cases hy : efind MdE.k t.ml n with
    | none => rw [hy] at hp hq; exact ⟨hq.1.trans hp.1.symm, hq.2.1.trans hp.2.1.symm⟩
    | some y =>
      rw [hy] at hp hq
      dsimp only at hp hq
      by_cases ho : off < 0 ∨ y.x.size ≤ off
      · rw [if_pos ho] at hp hq; exact ⟨hq.1.trans hp.1.symm, hq.2.1.trans hp.2.1.symm⟩
      rw [if_neg ho] at hp hq
      by_cases hs : y.x.st = true
      · rw [if_pos hs] at hp hq; exact ⟨hq.1.trans hp.1.symm, hq.2.1.trans hp.2.1.symm⟩
      rw [if_neg hs] at hp hq
      unfold AddrBP at hp hq
      cases hb : efind BkE.k x.bl n with
      | some b => rw [hb] at hp hq; exact ⟨hq.1.trans hp.1.symm, hq.2.1.trans hp.2.1.symm⟩
      | none =>
        rw [hb] at hp hq
        dsimp only at hp hq
        by_cases he : (mapS L y.x.size 3).2.2 = 0
        · rw [if_pos he] at hp hq; exact ⟨hq.1.trans hp.1.symm, hq.2.1.trans hp.2.1.symm⟩
        · rw [if_neg he] at hp hq; exact ⟨hq.1.trans hp.1.symm, hq.2.1.trans hp.2.1.symm⟩
/-- Twice the same. -/
theorem addr_twice {t : Ts} {L : List Rg} {id n off p r p2 r2 : Int} {t' t2 : Ts} {L' L2 : List Rg} (hp : AddrP t L id n off p r t' L') (hq : AddrP t' L' id n off p2 r2 t2 L2) : p2 = p ∧ r2 = r := by
  by_cases hr : r = 0
  · subst hr
    obtain ⟨h1, h2, -⟩ := has_addr (addr_has hp) hq
    exact ⟨h1, h2⟩
  · obtain ⟨-, rfl, rfl⟩ := addr_fail hp hr
    exact addr_fun hp hq

theorem SInv.reg_of {t : Ts} {L : List Rg} (h : SInv t L) {x : ThE} (hx : x ∈ t.tl) {c : Pc} (hc : c ∈ thP t.ar x) : ∃ r ∈ L, pcOf r = c := by
  have : c ∈ pcs t.ar t.tl := List.mem_flatMap.2 ⟨x, hx, hc⟩
  exact List.mem_map.1 (h.shp.mem_iff.2 this)
theorem SInv.fst {t : Ts} {L : List Rg} (h : SInv t L) : ((pcs t.ar t.tl).map (·.1)).Nodup := by
  have h1 : ((L.map pcOf).map (·.1)).Nodup := by
    rw [List.map_map]
    exact ats_nodup h.ok
  exact (h.shp.map (·.1)).nodup_iff.1 h1
theorem SInv.apart2 {t : Ts} {L : List Rg} (h : SInv t L) {x y : ThE} (hx : x ∈ t.tl) (hy : y ∈ t.tl) (hne : x.k ≠ y.k) {c d : Pc} (hc : c ∈ thP t.ar x) (hd : d ∈ thP t.ar y) : c.1 ≠ d.1 := by
  obtain ⟨l1, l2, hl⟩ := List.append_of_mem hx
  have hn := h.fst
  rw [hl] at hn hy
  have hn2 := ((pcs_mid t.ar x l1 l2).map (·.1)).nodup_iff.1 hn
  rw [List.map_append] at hn2
  have hy2 : y ∈ l1 ++ l2 := by
    simp only [List.mem_append, List.mem_cons] at hy ⊢
    rcases hy with hy | rfl | hy
    · exact .inl hy
    · exact absurd rfl hne
    · exact .inr hy
  exact (List.nodup_append.1 hn2).2.2 _ (List.mem_map_of_mem (f := (·.1)) hc) _ (List.mem_map_of_mem (f := (·.1)) (List.mem_flatMap.2 ⟨y, hy2, hd⟩))
theorem SInv.size {t : Ts} {L : List Rg} (h : SInv t L) {y : MdE} (hy : y ∈ t.ml) : 1 ≤ y.x.size ∧ y.x.size ≤ 4096 := ⟨(h.inv.key y hy).2, (h.inv.ok y hy).2⟩
theorem SInv.has_in {t : Ts} {L : List Rg} (h : SInv t L) {id n off p : Int} (ha : AddrHas t id n off p) : ∃ x c r, x ∈ t.tl ∧ x.k = id ∧ c ∈ thP t.ar x ∧ r ∈ L ∧ pcOf r = c ∧ r.pm = 3 ∧ r.at_ ≤ p ∧ p < r.at_ + r.sz := by
  obtain ⟨x, y, hx, hy, ho, ha⟩ := ha
  obtain ⟨hxm, hxk⟩ := efind_mem hx
  obtain ⟨hym, hyk⟩ := efind_mem hy
  obtain ⟨z1, z2⟩ := h.size hym
  rcases ha with ⟨hs, rfl⟩ | ⟨hs, b, hb, rfl⟩
  · obtain ⟨r, hr, hsr⟩ := h.reg_of hxm (c := (x.tp, up (max 8 t.ar), 3)) (List.mem_cons_self ..)
    have e1 : r.at_ = x.tp := congrArg (·.1) hsr
    have e2 : r.sz = up (max 8 t.ar) := congrArg (·.2.1) hsr
    have e3 : r.pm = 3 := congrArg (·.2.2) hsr
    have hro := h.ok.each r hr
    have h1 := hro.lo
    have h2 := hro.hi
    obtain ⟨s1, s2⟩ := h.sta y hym hs
    obtain ⟨u1, -⟩ := upT_nn z1
    have a1 := h.a1
    obtain ⟨u3, -⟩ := up_ge (max 8 t.ar) (by omega)
    have w1 : wrap64 (x.tp + y.x.bh) = x.tp + y.x.bh := by simp only [wrap64]; omega
    have w2 : wrap64 (x.tp + y.x.bh + off) = x.tp + y.x.bh + off := by simp only [wrap64]; omega
    refine ⟨x, _, r, hxm, hxk, List.mem_cons_self .., hr, hsr, e3, ?_, ?_⟩
    · rw [w1, w2]; omega
    · rw [w1, w2]; omega
  · obtain ⟨hbm, hbk⟩ := efind_mem hb
    obtain ⟨m, hm, -, -, -, hsz⟩ := h.bk x hxm b hbm
    rw [hbk, hy] at hm
    obtain rfl := Option.some.inj hm
    have hc : bkP b ∈ thP t.ar x := List.mem_cons_of_mem _ (List.mem_map_of_mem hbm)
    obtain ⟨r, hr, hsr⟩ := h.reg_of hxm hc
    have e1 : r.at_ = b.x.at_ := congrArg (·.1) hsr
    have e2 : r.sz = up b.x.sz := congrArg (·.2.1) hsr
    have e3 : r.pm = 3 := congrArg (·.2.2) hsr
    have hro := h.ok.each r hr
    have h1 := hro.lo
    have h2 := hro.hi
    obtain ⟨u3, -⟩ := up_ge b.x.sz (by omega)
    have w1 : wrap64 (b.x.at_ + off) = b.x.at_ + off := by simp only [wrap64]; omega
    refine ⟨x, _, r, hxm, hxk, hc, hr, hsr, e3, ?_, ?_⟩
    · rw [w1]; omega
    · rw [w1]; omega

/-! ### One byte -/
theorem part_three {L : List Rg} (h : Ok L) {r : Rg} (hr : r ∈ L) (hp : r.pm = 3) {x : Int} {n : Nat} (h1 : r.at_ ≤ x) (h2 : x + n ≤ r.at_ + r.sz) (hn : 1 ≤ n) (m : Int) (hm : m = 0 ∨ m = 1 ∨ m = 2) : partS L x n m = 0 := by
  obtain ⟨i, hi⟩ := List.mem_iff_getElem?.1 hr
  have hk := partK_eq h hi (inside_of h1 (by omega))
  rw [partS_some (hk ▸ hi), if_neg (by omega), if_neg]
  rw [hp]
  rcases hm with rfl | rfl | rfl <;> decide
theorem set_as {L : List Rg} {x : Int} {b : List UInt8} {p q : Int} (h1 : partS L x b.length p = 0) (h2 : partS L x b.length q = 0) : setS L x b p = setS L x b q := by
  unfold setS
  rw [h1, h2]
theorem get_as {L : List Rg} {x n p q : Int} (h1 : partS L x n.toNat p = 0) (h2 : partS L x n.toNat q = 0) : getS L x n p = getS L x n q := by
  unfold getS
  rw [h1, h2]
theorem set_part (L : List Rg) (x y p q : Int) (n : Nat) (b : List UInt8) : partS (setS L x b q).1 y n p = partS L y n p := by
  unfold setS
  split
  · rfl
  split
  · rfl
  exact partS_modify (fun r => { r with bs := over r.bs (x - r.at_).toNat b }) (fun _ => rfl) (fun _ => rfl) (fun _ => rfl) _ _ _ _ _
/-- TlsOwn's law. -/
structure OwnR (L : List Rg) (p q : Int) (b : UInt8) : Prop where
  ok : Ok L
  r0 : (getS L q 1 1).2 = 0
  w0 : (setS L p [b] 2).2 = 0
  ne : p ≠ q
  same : getS (setS L p [b] 2).1 q 1 1 = getS L q 1 1
  mine : getS (setS L p [b] 2).1 p 1 1 = ([b], 0)
  p0 : 4096 ≤ p
  p1 : p ≤ 4294967296
  q0 : 4096 ≤ q
  q1 : q ≤ 4294967296
theorem own_plain {t : Ts} {L : List Rg} (h : SInv t L) {x y n off p q : Int} (hx : AddrHas t x n off p) (hy : AddrHas t y n off q) (hne : x ≠ y) (b : UInt8) : OwnR L p q b := by
  obtain ⟨tx, c, r, hxm, hxk, hc, hr, hsr, hrp, r1, r2⟩ := h.has_in hx
  obtain ⟨ty, d, s, hym, hyk, hd, hs, hss, hsp, s1, s2⟩ := h.has_in hy
  have hcd := h.apart2 hxm hym (by rw [hxk, hyk]; exact hne) hc hd
  rw [← hsr, ← hss] at hcd
  have hcd' : r.at_ ≠ s.at_ := hcd
  have hro := h.ok.each r hr
  have hso := h.ok.each s hs
  obtain ⟨i, hi⟩ := List.mem_iff_getElem?.1 hr
  obtain ⟨j, hj⟩ := List.mem_iff_getElem?.1 hs
  have hpq : p ≠ q := by
    rintro rfl
    have := ok_unique h.ok hi hj (inside_of r1 r2) (inside_of s1 s2)
    subst this
    rw [hi] at hj
    obtain rfl := Option.some.inj hj
    exact hcd' rfl
  have p0 : ∀ m, m = 0 ∨ m = 1 ∨ m = 2 → partS L p 1 m = 0 := fun m hm => part_three h.ok hr hrp r1 (by omega) (Nat.le_refl _) m hm
  have q0 : ∀ m, m = 0 ∨ m = 1 ∨ m = 2 → partS L q 1 m = 0 := fun m hm => part_three h.ok hs hsp s1 (by omega) (Nat.le_refl _) m hm
  have eset : setS L p [b] 2 = setS L p [b] 0 := set_as (p0 2 (by simp)) (p0 0 (by simp))
  have eget : getS L q 1 1 = getS L q 1 0 := get_as (q0 1 (by simp)) (q0 0 (by simp))
  have eget2 : getS (setS L p [b] 0).1 q 1 1 = getS (setS L p [b] 0).1 q 1 0 := get_as (by rw [set_part]; exact q0 1 (by simp)) (by rw [set_part]; exact q0 0 (by simp))
  have eget3 : getS (setS L p [b] 0).1 p 1 1 = getS (setS L p [b] 0).1 p 1 0 := get_as (by rw [set_part]; exact p0 1 (by simp)) (by rw [set_part]; exact p0 0 (by simp))
  have g0 : (getS L q 1 0).2 = 0 := by rw [get_err, if_neg (by omega)]; exact q0 0 (by simp)
  have w0 : (setS L p [b] 0).2 = 0 := by
    unfold setS
    rw [if_neg (by simp)]
    rw [if_neg (by rw [show [b].length = 1 from rfl, p0 0 (by simp)]; simp)]
  have a1 := hro.lo; have a2 := hro.hi; have a3 := hso.lo; have a4 := hso.hi
  refine ⟨h.ok, by rw [eget]; exact g0, by rw [eset]; exact w0, hpq, ?_, ?_, by omega, by omega, by omega, by omega⟩
  · rw [eset, eget, eget2]
    refine Prod.ext (set_other h.ok w0 g0 (by show q < p ∨ p + ((1 : Nat) : Int) ≤ q; omega)) ?_
    exact get_err_set L p q 1 0 0 [b]
  · rw [eset, eget3]
    exact set_get h.ok w0

/-! ### TlsFresh -/
theorem map_err3 {L : List Rg} (h : Ok L) {n : Int} (h1 : 1 ≤ n) (h2 : n ≤ 1048576) : (mapS L n 3).2.2 = 0 ∨ (mapS L n 3).2.2 = 3 := by
  by_cases hg : (gapS L n).2 = 0
  · rw [map_gap h hg (by omega)]
    exact .inl rfl
  · rw [map_full (by omega) hg]
    simp only
    unfold gapS at hg ⊢
    rw [if_neg (by omega)] at hg ⊢
    split
    · exact .inr rfl
    · exact .inl rfl
theorem exit_gone {t : Ts} {L : List Rg} (h : SInv t L) {id r : Int} {t' : Ts} {L' : List Rg} (hp : ExitP t L id r t' L') : efind ThE.k t'.tl id = none ∧ t'.ml = t.ml ∧ t'.ar = t.ar ∧ t'.gl = t.gl := by
  unfold ExitP at hp
  cases hf : efind ThE.k t.tl id with
  | none => rw [hf] at hp; obtain ⟨-, rfl, -⟩ := hp; exact ⟨hf, rfl, rfl, rfl⟩
  | some x =>
    rw [hf] at hp
    obtain ⟨-, rfl, -⟩ := hp
    exact ⟨efind_none_of (edel_ne h.inv.good.kt), rfl, rfl, rfl⟩
theorem start_fresh {t : Ts} {L : List Rg} (h : SInv t L) {id n r : Int} {t' : Ts} {L' : List Rg} (hid : efind ThE.k t.tl id = none) (h0 : 0 ≤ id) (h1 : id < 16) (hp : StartP t L id n r t' L') : (r = 0 ∨ r = 3) ∧ t'.ml = t.ml ∧ (r = 0 → ∃ x, efind ThE.k t'.tl id = some x ∧ x.bl = []) := by
  have a0 := h.a0
  have a1 := h.a1
  unfold StartP at hp
  rw [if_neg (by rw [hid]; simp; omega)] at hp
  split at hp
  · obtain ⟨-, rfl, ⟨g, rfl⟩, -⟩ := hp
    refine ⟨.inl rfl, rfl, fun _ => ⟨⟨id, (mapS L (max 8 t.ar) 3).2.1, g, [], 0, t.tc⟩, ?_, rfl⟩⟩
    rw [efind_app_none hid]
    unfold efind
    rw [if_pos rfl]
  · rename_i he
    obtain ⟨-, rfl, rfl, -⟩ := hp
    rcases map_err3 h.ok (n := max 8 t'.ar) (by omega) (by omega) with h3 | h3
    · exact absurd h3 he
    · exact ⟨.inr h3, rfl, fun hh => absurd hh he⟩
theorem fresh_plain {t : Ts} {L : List Rg} (h : SInv t L) {id n p r : Int} {t' : Ts} {L' : List Rg} {x : ThE} {y : MdE} (hx : efind ThE.k t.tl id = some x) (hb : x.bl = []) (hy : efind MdE.k t.ml n = some y) (hst : y.x.st = false) (hp : AddrP t L id n 0 p r t' L') :
    (r = 0 ∨ r = 3) ∧ (r = 0 → getS L' p y.x.size 1 = (fullB y.x, 0) ∧ p ≤ 4294967296) := by
  obtain ⟨z1, z2⟩ := h.size (efind_mem hy).1
  have z3 := (h.inv.ok y (efind_mem hy).1).1
  unfold AddrP at hp
  rw [hx] at hp
  dsimp only at hp
  rw [hy] at hp
  dsimp only at hp
  rw [if_neg (by omega), if_neg (by rw [hst]; simp)] at hp
  unfold AddrBP at hp
  rw [hb] at hp
  have hp' : if (mapS L y.x.size 3).2.2 = 0 then p = wrap64 ((mapS L y.x.size 3).2.1 + 0) ∧ r = 0 ∧ t' = { t with tl := addB id n x y (mapS L y.x.size 3).2.1 t.tl } ∧ L' = (setS (mapS L y.x.size 3).1 (mapS L y.x.size 3).2.1 (fullB y.x) 0).1
    else p = 0 ∧ r = (mapS L y.x.size 3).2.2 ∧ t' = t ∧ L' = (mapS L y.x.size 3).1 := hp
  by_cases he : (mapS L y.x.size 3).2.2 = 0
  · rw [if_pos he] at hp'
    obtain ⟨rfl, rfl, -, rfl⟩ := hp'
    refine ⟨.inl rfl, fun _ => ?_⟩
    have hok := h.ok.map y.x.size 3
    have hmem : (⟨(mapS L y.x.size 3).2.1, up y.x.size, 3, zeros (up y.x.size)⟩ : Rg) ∈ (mapS L y.x.size 3).1 := (mapS_perm h.ok he).mem_iff.2 (List.mem_cons_self ..)
    have hro := hok.each _ hmem
    have h1 : 4096 ≤ (mapS L y.x.size 3).2.1 := hro.lo
    have h2 : (mapS L y.x.size 3).2.1 + up y.x.size ≤ 4294967296 := hro.hi
    obtain ⟨u1, -⟩ := up_ge y.x.size z1
    have hw : wrap64 ((mapS L y.x.size 3).2.1 + 0) = (mapS L y.x.size 3).2.1 := by simp only [wrap64]; omega
    rw [hw]
    have hlen : ((fullB y.x).length : Int) = y.x.size := fullB_len z3
    have hne : fullB y.x ≠ [] := by
      intro hh
      rw [hh] at hlen
      simp at hlen
      omega
    obtain ⟨s1, s2⟩ := set_there hok hmem hne (by rw [hlen]; exact u1)
    have g1 := set_get hok s1
    have pp : ∀ m, m = 0 ∨ m = 1 ∨ m = 2 → partS (mapS L y.x.size 3).1 (mapS L y.x.size 3).2.1 y.x.size.toNat m = 0 := fun m hm => part_three hok hmem rfl (Int.le_refl _) (by show (mapS L y.x.size 3).2.1 + ((y.x.size.toNat : Nat) : Int) ≤ (mapS L y.x.size 3).2.1 + up y.x.size; omega) (by omega) m hm
    refine ⟨?_, by omega⟩
    rw [hlen] at g1
    rw [← g1]
    exact get_as (by rw [set_part]; exact pp 1 (by simp)) (by rw [set_part]; exact pp 0 (by simp))
  · rw [if_neg he] at hp'
    obtain ⟨-, rfl, -⟩ := hp'
    rcases map_err3 h.ok (n := y.x.size) z1 (by omega) with h3 | h3
    · exact absurd h3 he
    · exact ⟨.inr h3, fun hh => absurd hh he⟩
theorem reg_err {t : Ts} {tm : List UInt8} {size : Int} {st : Bool} {n r : Int} {t' : Ts} (hp : RegP t tm size st n r t') (hr : r ≠ 0) : n = 0 := by
  unfold RegP at hp
  split at hp
  · exact hp.1
  split at hp
  · exact hp.1
  obtain ⟨m, hm, hp⟩ := hp
  split at hp
  · exact hp.1
  split at hp
  · exact hp.1
  exact absurd hp.2.1 hr
theorem reg_ok {t : Ts} {L : List Rg} (h : SInv t L) {tm : List UInt8} {size : Int} {n : Int} {t' : Ts} (hp : RegP t tm size false n 0 t') : ∃ y, efind MdE.k t'.ml n = some y ∧ y.x.st = false ∧ y.x.size = size ∧ y.x.tm = tm ∧ 1 ≤ size ∧ size ≤ 4096 ∧ (tm.length : Int) ≤ size ∧ FreeN t.ml n ∧ n ≤ 64 ∧ efind MdE.k t.ml n = none ∧ ∃ v, t' = regT t n tm size false v := by
  unfold RegP at hp
  split at hp
  · exact absurd hp.2.1 (by decide)
  rename_i hb
  split at hp
  · exact absurd hp.2.1 (by decide)
  obtain ⟨m, hm, hp⟩ := hp
  split at hp
  · exact absurd hp.2.1 (by decide)
  rename_i h64
  split at hp
  · exact absurd hp.2.1 (by decide)
  obtain ⟨rfl, -, v, rfl⟩ := hp
  have hfn := mszS_none h.inv.key hm.2.2.2
  refine ⟨newM t n tm size false v, ?_, rfl, rfl, rfl, by omega, by omega, by omega, hm, by omega, hfn, v, rfl⟩
  show efind MdE.k (t.ml ++ [_]) n = _
  rw [efind_app_none hfn]
  unfold efind
  rw [if_pos (show n = (newM t n tm size false v).k from rfl)]
end Go.Proofs.YtpenejigebkkmaaGreat

namespace Go.Proofs.YtpenejigebkkmaaGreat
open Go.RowKit Go.Shelf
open Go.WideElems (Fit rd rg rg_of rd_mk)
set_option linter.unusedVariables false
set_option linter.unusedSimpArgs false

theorem tsorts (m : Nat) : Go.Proofs.AnyZI.SortsIn Tryz.prog Tryz.sortedL_ren Fence.wide m :=
  ⟨fun blk off cap ss W hH hblk hsz => callsIn_wide.2 (Go.Proofs.AnyM.slices_Sort_int Tryz.sortL blk off cap ss W hH hblk hsz),
   fun p cap W => callsIn_wide.2 (Go.Proofs.AnyM.slices_Sort_int_none Tryz.sortL p cap W)⟩
/-- Any value reads as nothing: of a map only the keys matter here. -/
def unitR : Value → Option (DataW Nat × List MemPlace) := fun _ => some (.nil, [])
theorem keyOf_i (k : Int) (hk : (Lit.int .i64 k).wf = true) : keyOf Tryz.prog 3 (.int .i64 k) = some (.int .i64 k) := Go.Maps.keyOf_int_mk Tryz.underlying3 hk
theorem fit_es {es : List Ent} {c : Nat} (h : Good es c) (hl : es.length ≤ maxLen) (hk : ∀ e ∈ es, (Lit.int .i64 e.1).wf = true) : Fit Tryz.prog 3 unitR (es.map entM).toArray c := by
  refine ⟨by simpa using hl, ⟨fun x hx => ?_, ?_, ?_⟩, fun x hx => ?_⟩
  · rw [List.toList_toArray] at hx
    obtain ⟨e, he, rfl⟩ := List.mem_map.1 hx
    exact h.past e he
  · rw [List.toList_toArray, List.map_map]
    exact h.born
  · rw [List.toList_toArray, List.map_map]
    have hn := h.keys
    unfold List.Nodup at hn ⊢
    rw [List.pairwise_map] at hn ⊢
    refine hn.imp fun {a b} hab e => hab ?_
    have e2 : (Value.int .i64 a.1) = .int .i64 b.1 := e
    exact Value.int.inj e2 |>.2
  · rw [List.toList_toArray] at hx
    obtain ⟨e, he, rfl⟩ := List.mem_map.1 hx
    exact ⟨_, rd_mk (keyOf_i e.1 (hk e he)) rfl⟩
/-- The datum of a map of which only the keys matter. -/
def KeyD (es : List Ent) (D : DataW Nat) : Prop := D = .map (((es.map entM).map (rg Tryz.prog 3 unitR)).foldr DataW.insert [])
theorem owns_es {D : DataW Nat} {w : World} {g : Nat} {es : List Ent} {c : Nat} (hg : w.heap[g]? = some (.map (es.map entM).toArray c)) (h : Good es c) (hl : es.length ≤ maxLen) (hk : ∀ e ∈ es, (Lit.int .i64 e.1).wf = true) (hD : KeyD es D) : w.ownsMap Tryz.prog 3 unitR g es.length D :=
  ⟨_, _, hg, fit_es h hl hk, by simp, by rw [List.toList_toArray]; exact hD⟩
theorem unitR_some (v : Value) : unitR v = some (.nil, []) := by unfold unitR; rfl
theorem rg_es {e : Ent} (hk : (Lit.int .i64 e.1).wf = true) : rg Tryz.prog 3 unitR (entM e) = (.int .i64 e.1, .nil) := by
  have h2 : rd Tryz.prog 3 unitR (entM e) = some (.int .i64 e.1, .nil) := by
    unfold entM
    rw [rd_mk (keyOf_i e.1 hk) (unitR_some _)]
  exact rg_of h2
theorem keys_es {D : DataW Nat} {es : List Ent} (hk : ∀ e ∈ es, (Lit.int .i64 e.1).wf = true) (hD : KeyD es D) : (intKeys D).Perm (es.map (·.1)) := by
  subst hD
  show (List.map _ _).Perm _
  refine ((Go.WideShapes.sorted_perm _).map fun p : Lit × DataW Nat => Go.intOf p.1).trans ?_
  rw [List.map_map, List.map_map]
  refine List.Perm.of_eq (List.map_congr_left fun e he => ?_)
  have h1 : rg Tryz.prog 3 unitR (entM e) = (.int .i64 e.1, .nil) := rg_es (hk e he)
  simp only [Function.comp_apply, h1]
  rfl
theorem size_es {D : DataW Nat} {es : List Ent} (hD : KeyD es D) : Go.Maps.size D = es.length := by
  subst hD
  show List.length _ = _
  rw [(Go.WideShapes.sorted_perm _).length_eq]
  simp
/-- maps.Keys: a function over one new block that holds the map. -/
theorem tkeys_any (g : Nat) (W : World) : Calls Tryz.prog 59 #[.map (some g)] W fun e w' => e = .returned (.func (.func 74) #[] #[.pointer (some ⟨W.heap.size, 0, none⟩)]) ∧ w' = W.alloc (.cells #[.map (some g)] 52) :=
  (callsIn_wide (n := 5)).1 (Go.Proofs.AnyZI.keys_in Tryz.keysL Fence.wide 5 trivial rfl (some g) W)
set_option maxRecDepth 100000 in
set_option maxHeartbeats 1000000 in
/-- slices.Sorted of what that handed back: the keys, ascending, in memory of its own. -/
theorem tsorted_any {W : World} {g : Nat} {es : List Ent} {c : Nat} (hg : W.heap[g]? = some (.map (es.map entM).toArray c)) (h : Good es c) (hl : es.length ≤ 1000000) (hk : ∀ e ∈ es, (Lit.int .i64 e.1).wf = true) :
    Calls Tryz.prog 58 #[.func (.func 74) #[] #[.pointer (some ⟨W.heap.size, 0, none⟩)]] (W.alloc (.cells #[.map (some g)] 52)) fun e w' => ∃ v, e = .returned v ∧
      w'.ownsRow (W.heap.size + 1) 3 1 v es.length (((es.map (·.1)).mergeSort leI).map encZ) ∧ Below (W.heap.size + 1) (W.alloc (.cells #[.map (some g)] 52)) w' := by
  obtain ⟨D, hD⟩ : ∃ D, KeyD es D := ⟨_, rfl⟩
  have hmax : Go.Maps.size D ≤ maxLen := by rw [size_es hD]; unfold maxLen; omega
  have hbytes : Go.Maps.size D * 8 ≤ 140737488355328 := by rw [size_es hD]; omega
  have hown := owns_es hg h (by unfold maxLen; omega) hk hD
  have hbl := hown.lt
  have hseq : SeqGives Fence.wide 2 Tryz.prog 74 #[.pointer (some ⟨W.heap.size, 0, none⟩)] encZ (fun ss => ss.Perm (intKeys D)) (Go.Maps.size D) (W.alloc (.cells #[.map (some g)] 52)) :=
    Go.Proofs.AnyZI.keys_gives (ρ := Tryz.keysL_ren) { Tryz.keysL with } Fence.wide _ trivial rfl (by omega) W.heap.size g es.length D _ (by simp) (by simp) (by
      obtain ⟨es', clock, hb, Ft, hs, hD⟩ := hown
      exact ⟨es', clock, (Below.heap_alloc _ _ g hbl).trans hb, Ft, hs, hD⟩)
  have cS := Go.Proofs.AnyZI.sorted_in Tryz.sortedL Fence.wide 5 trivial trivial trivial trivial rfl (by omega) (tsorts _) (enters_of Tryz.func73 (by kernel_rfl) rfl) 74 #[.pointer (some ⟨W.heap.size, 0, none⟩)] trivial (enters_of Tryz.func74 (by kernel_rfl) rfl) _ _ hmax hbytes _ hseq
  change CallsIn _ _ Tryz.prog 58 _ _ _ at cS
  refine ((callsIn_wide (n := 5)).1 cS).mono ?_
  rintro e w' ⟨v, ss, rfl, hS, hrow, -, hb⟩
  have hp : ss.Perm (es.map (·.1)) := hS.trans (keys_es hk hD)
  have hlen : ss.length = es.length := by rw [hp.length_eq, List.length_map]
  refine ⟨v, rfl, ?_, ?_⟩
  · have h1 := mergeSort_of_perm_i hp
    rw [← h1, ← hlen]
    have h2 := hrow
    simp only [World.alloc, Array.size_push] at h2
    exact h2
  · simpa using hb
end Go.Proofs.YtpenejigebkkmaaGreat

namespace Go.Proofs.YtpenejigebkkmaaGreat
open Go.RowKit Spm
set_option linter.unusedVariables false
set_option linter.unusedSimpArgs false

def bkC (x : Bk) : List Value := [.int .i64 x.md, .int .i64 x.gn, .int .i64 x.at_, .int .i64 x.sz]
set_option maxRecDepth 100000 in
theorem blk_info : (Tryz.prog.info? 69).map (fun i => (i.zero, i.size, i.bytes)) = some (some (.agg #[.int .i64 0, .int .i64 0, .int .i64 0, .int .i64 0]), 4, 32) := by kernel_rfl
def keysS (t : Ts) : List Int := (t.ml.map MdE.k).mergeSort leI
/-- A thread's block of a module, if there is one. -/
def blk1 (ml : List MdE) (x : ThE) (n : Int) : Option Bk := match efind MdE.k ml n with
  | none => none
  | some m => if m.x.st = true then some ⟨n, m.x.gen, wrap64 (x.tp + m.x.bh), m.x.size⟩ else (efind BkE.k x.bl n).map (·.x)
def blksS (t : Ts) (id : Int) : List Bk := match efind ThE.k t.tl id with
  | none => []
  | some x => (keysS t).filterMap (blk1 t.ml x)

/-! Rows of blocks, of numbers, as things. -/
def Bks (v : Value) (l : List Bk) : Res := fun w F => w.ownsRow 0 69 4 v l.length (l.flatMap bkC) ∧ ∀ g, v.ownBlock = some g → F g
instance fr_bks (v : Value) (l : List Bk) : Fr (Bks v l) := fr_row
def Ks (v : Value) (l : List Int) : Res := fun w F => w.ownsRow 0 3 1 v l.length (l.map (Value.int .i64)) ∧ ∀ g, v.ownBlock = some g → F g
instance fr_ks (v : Value) (l : List Int) : Fr (Ks v l) := fr_row
theorem owns_raise {w : World} {b b' : Nat} {e : TypeId} {size : Nat} {v : Value} {n : Nat} {xs : List Value} (h : w.ownsRow b e size v n xs) (hb : ∀ g, v.ownBlock = some g → b' ≤ g) : w.ownsRow b' e size v n xs :=
  ⟨h.1, by
    rcases h.2 with h | ⟨g, cap, cur, hv, h1, h2⟩
    · exact .inl h
    · exact .inr ⟨g, cap, cur, hv, hb g (by rw [hv]; rfl), h2⟩⟩
theorem Ks.src {w : World} {F : Nat → Prop} {v : Value} {l : List Int} (h : Ks v l w F) : ∃ A c, v = .slice A l.length c ∧ c ≤ maxLen ∧ ∀ k x, l[k]? = some x → ∃ g, A = some ⟨g, 0, none⟩ ∧ w.cell? ⟨g, k, none⟩ = some (.int .i64 x) := by
  obtain ⟨h, -⟩ := h
  rcases h.2 with ⟨hv, hn⟩ | ⟨g, cap, cur, hv, hb, hg, hl, hm, hs, ht⟩
  · exact ⟨none, 0, by rw [hv, hn], Nat.zero_le _, fun k x hx => by
      rw [List.eq_nil_of_length_eq_zero hn] at hx
      simp at hx⟩
  · refine ⟨some ⟨g, 0, none⟩, cap, hv, hm, fun k x hk => ⟨g, rfl, ?_⟩⟩
    have h9 := h.cells (g := g) (by rw [hv]; rfl) k (.int .i64 x) (by rw [List.getElem?_map, hk]; rfl)
    rwa [Addr.add_lit, Nat.zero_add] at h9
theorem fm_snoc {α β : Type} (f : α → Option β) (l : List α) (k : Nat) (x : α) (h : l[k]? = some x) : (l.take (k + 1)).filterMap f = (l.take k).filterMap f ++ (f x).toList := by
  rw [List.take_add_one, h, List.filterMap_append]
  cases hf : f x <;> simp [hf]
theorem fm_len {α β : Type} (f : α → Option β) : ∀ l : List α, (l.filterMap f).length ≤ l.length
  | [] => Nat.le_refl _
  | x :: l => by
    have := fm_len f l
    rw [List.filterMap_cons]
    cases f x <;> simp <;> omega
theorem nodup_len : ∀ (n : Nat) (l : List Int), l.Nodup → (∀ x ∈ l, 1 ≤ x ∧ x ≤ (n : Int)) → l.length ≤ n
  | 0, l, _, h => by
    cases l with
    | nil => exact Nat.le_refl _
    | cons x l => have := h x (by simp); omega
  | n + 1, l, hn, h => by
    have h2 := nodup_len n (l.erase ((n : Int) + 1)) (hn.erase _) (fun x hx => by
      have h3 := (hn.mem_erase_iff).1 hx
      have h4 := h x h3.2
      have h5 : x ≠ (n : Int) + 1 := h3.1
      omega)
    have h6 : l.length - 1 ≤ (l.erase ((n : Int) + 1)).length := by
      rw [List.length_erase]
      split <;> omega
    omega
structure MdsNum (l : List MdE) : Prop where
  nd : (l.map MdE.k).Nodup
  lo : ∀ m ∈ l, 1 ≤ m.k
  hi : ∀ m ∈ l, m.k ≤ 64
theorem MdsNum.len {l : List MdE} (h : MdsNum l) : l.length ≤ 64 := by
  have := nodup_len 64 (l.map MdE.k) h.nd (fun x hx => by
    obtain ⟨m, hm, rfl⟩ := List.mem_map.1 hx
    exact ⟨h.lo m hm, h.hi m hm⟩)
  rwa [List.length_map] at this
theorem keysS_len (t : Ts) : (keysS t).length = t.ml.length := by unfold keysS; rw [List.length_mergeSort, List.length_map]
theorem keysS_mem {t : Ts} {n : Int} : n ∈ keysS t ↔ n ∈ t.ml.map MdE.k := by unfold keysS; exact List.mem_mergeSort
theorem efind_inL {x : MdE} : ∀ {l : List MdE}, (l.map MdE.k).Nodup → x ∈ l → efind MdE.k l x.k = some x
  | [], _, h => by simp at h
  | y :: l, hn, h => by
    rw [List.map_cons, List.nodup_cons] at hn
    unfold efind
    rcases List.mem_cons.1 h with rfl | h
    · rw [if_pos rfl]
    · rw [if_neg (fun e => hn.1 (by rw [← e]; exact List.mem_map_of_mem h))]
      exact efind_inL hn.2 h
theorem efind_key {l : List MdE} (hn : (l.map MdE.k).Nodup) {n : Int} (h : n ∈ l.map MdE.k) : ∃ m, efind MdE.k l n = some m := by
  obtain ⟨m, hm, rfl⟩ := List.mem_map.1 h
  exact ⟨m, efind_inL hn hm⟩
end Go.Proofs.YtpenejigebkkmaaGreat

namespace Go.Proofs.YtpenejigebkkmaaGreat
open Go.RowKit Spm
set_option linter.unusedVariables false
set_option linter.unusedSimpArgs false

theorem SInv.num {t : Ts} {L : List Rg} (h : SInv t L) : MdsNum t.ml := ⟨h.inv.good.km, h.k1, fun m hm => (h.inv.key m hm).1⟩
theorem nodup_inj {α β : Type} {f : α → β} {a b : α} : ∀ {l : List α}, (l.map f).Nodup → a ∈ l → b ∈ l → f a = f b → a = b
  | [], _, h, _, _ => by simp at h
  | x :: l, hn, ha, hb, e => by
    rw [List.map_cons, List.nodup_cons] at hn
    rcases List.mem_cons.1 ha with ha1 | ha1
    · rcases List.mem_cons.1 hb with hb1 | hb1
      · rw [ha1, hb1]
      · exact absurd (by rw [← ha1, e]; exact List.mem_map_of_mem hb1) hn.1
    · rcases List.mem_cons.1 hb with hb1 | hb1
      · exact absurd (by rw [← hb1, ← e]; exact List.mem_map_of_mem ha1) hn.1
      · exact nodup_inj hn.2 ha1 hb1 e
theorem regions_apart {L : List Rg} (h : Ok L) {r s : Rg} (hr : r ∈ L) (hs : s ∈ L) (hne : r.at_ ≠ s.at_) : r.at_ + r.sz ≤ s.at_ ∨ s.at_ + s.sz ≤ r.at_ := by
  obtain ⟨i, hi⟩ := List.mem_iff_getElem?.1 hr
  obtain ⟨j, hj⟩ := List.mem_iff_getElem?.1 hs
  rcases Nat.lt_trichotomy i j with hl | hl | hl
  · exact .inl (pw_get h.srt hi hj hl)
  · subst hl
    rw [hi] at hj
    obtain rfl := Option.some.inj hj
    exact absurd rfl hne
  · exact .inr (pw_get h.srt hj hi hl)
/-- Where a thread's block of a module lies. -/
structure BlkIn (t : Ts) (L : List Rg) (x : ThE) (n : Int) (b : Bk) (m : MdE) (c : Pc) (r : Rg) : Prop where
  md : b.md = n
  fm : efind MdE.k t.ml n = some m
  sz1 : 1 ≤ b.sz
  sz2 : b.sz ≤ 4096
  kind : (m.x.st = true ∧ b.at_ = x.tp + m.x.bh ∧ b.sz = m.x.size ∧ c = (x.tp, up (max 8 t.ar), 3)) ∨ (m.x.st = false ∧ ∃ e ∈ x.bl, e.k = n ∧ b = e.x ∧ c = bkP e)
  pc : c ∈ thP t.ar x
  mem : r ∈ L
  shp : pcOf r = c
  lo : r.at_ ≤ b.at_
  hi : b.at_ + b.sz ≤ r.at_ + r.sz
theorem SInv.blk_in {t : Ts} {L : List Rg} (h : SInv t L) {x : ThE} (hx : x ∈ t.tl) {n : Int} {b : Bk} (hb : blk1 t.ml x n = some b) : ∃ m c r, BlkIn t L x n b m c r := by
  unfold blk1 at hb
  cases hm : efind MdE.k t.ml n with
  | none => rw [hm] at hb; cases hb
  | some m =>
    rw [hm] at hb
    dsimp only at hb
    obtain ⟨hmm, hmk⟩ := efind_mem hm
    obtain ⟨z1, z2⟩ := h.size hmm
    by_cases hst : m.x.st = true
    · rw [if_pos hst] at hb
      obtain rfl := Option.some.inj hb
      have hc : (x.tp, up (max 8 t.ar), (3 : Int)) ∈ thP t.ar x := List.mem_cons_self ..
      obtain ⟨r, hr, hsr⟩ := h.reg_of hx hc
      have e1 : r.at_ = x.tp := congrArg (·.1) hsr
      have e2 : r.sz = up (max 8 t.ar) := congrArg (·.2.1) hsr
      have hro := h.ok.each r hr
      have h1 := hro.lo
      have h2 := hro.hi
      obtain ⟨s1, s2⟩ := h.sta m hmm hst
      obtain ⟨u1, -⟩ := upT_nn z1
      have a1 := h.a1
      obtain ⟨u3, -⟩ := up_ge (max 8 t.ar) (by omega)
      have w1 : wrap64 (x.tp + m.x.bh) = x.tp + m.x.bh := by simp only [wrap64]; omega
      refine ⟨m, _, r, rfl, hm, z1, z2, .inl ⟨hst, w1, rfl, rfl⟩, hc, hr, hsr, ?_, ?_⟩
      · show r.at_ ≤ wrap64 (x.tp + m.x.bh)
        rw [w1]; omega
      · show wrap64 (x.tp + m.x.bh) + m.x.size ≤ _
        rw [w1]; omega
    · rw [if_neg hst] at hb
      cases hf : efind BkE.k x.bl n with
      | none => rw [hf] at hb; cases hb
      | some e =>
        rw [hf] at hb
        obtain rfl := Option.some.inj hb
        obtain ⟨hem, hek⟩ := efind_mem hf
        obtain ⟨m', hm', -, hmd, -, hsz⟩ := h.bk x hx e hem
        rw [hek, hm] at hm'
        obtain rfl := Option.some.inj hm'
        have hc : bkP e ∈ thP t.ar x := List.mem_cons_of_mem _ (List.mem_map_of_mem hem)
        obtain ⟨r, hr, hsr⟩ := h.reg_of hx hc
        have e1 : r.at_ = e.x.at_ := congrArg (·.1) hsr
        have e2 : r.sz = up e.x.sz := congrArg (·.2.1) hsr
        obtain ⟨u3, -⟩ := up_ge e.x.sz (by omega)
        exact ⟨m, _, r, hmd.trans hek, hm, by show 1 ≤ e.x.sz; omega, by show e.x.sz ≤ 4096; omega, .inr ⟨by simpa using hst, e, hem, hek, rfl, rfl⟩, hc, hr, hsr, by show r.at_ ≤ e.x.at_; omega, by show e.x.at_ + e.x.sz ≤ _; omega⟩
theorem SInv.th_fst {t : Ts} {L : List Rg} (h : SInv t L) {x : ThE} (hx : x ∈ t.tl) : ((thP t.ar x).map (·.1)).Nodup := by
  obtain ⟨l1, l2, hl⟩ := List.append_of_mem hx
  have hn := h.fst
  rw [hl] at hn
  have hn2 := ((pcs_mid t.ar x l1 l2).map (·.1)).nodup_iff.1 hn
  rw [List.map_append] at hn2
  exact (List.nodup_append.1 hn2).1
def DisjB (a b : Bk) : Prop := a.at_ + a.sz ≤ b.at_ ∨ b.at_ + b.sz ≤ a.at_
theorem SInv.disj_th {t : Ts} {L : List Rg} (h : SInv t L) {x y : ThE} (hx : x ∈ t.tl) (hy : y ∈ t.tl) (hne : x.k ≠ y.k) {n k : Int} {a b : Bk} (ha : blk1 t.ml x n = some a) (hb : blk1 t.ml y k = some b) : DisjB a b := by
  obtain ⟨m, c, r, B1⟩ := h.blk_in hx ha
  obtain ⟨m', d, s, B2⟩ := h.blk_in hy hb
  have hcd := h.apart2 hx hy hne B1.pc B2.pc
  rw [← B1.shp, ← B2.shp] at hcd
  have := regions_apart h.ok B1.mem B2.mem hcd
  have a1 := B1.lo; have a2 := B1.hi; have a3 := B2.lo; have a4 := B2.hi
  unfold DisjB
  omega
theorem SInv.disj_one {t : Ts} {L : List Rg} (h : SInv t L) {x : ThE} (hx : x ∈ t.tl) {n k : Int} (hne : n ≠ k) {a b : Bk} (ha : blk1 t.ml x n = some a) (hb : blk1 t.ml x k = some b) : DisjB a b := by
  obtain ⟨m, c, r, B1⟩ := h.blk_in hx ha
  obtain ⟨m', d, s, B2⟩ := h.blk_in hx hb
  have hfst := h.th_fst hx
  have hreg : c.1 ≠ d.1 → DisjB a b := fun hcd => by
    rw [← B1.shp, ← B2.shp] at hcd
    have := regions_apart h.ok B1.mem B2.mem hcd
    have a1 := B1.lo; have a2 := B1.hi; have a3 := B2.lo; have a4 := B2.hi
    unfold DisjB
    omega
  have hn2 : (x.tp :: x.bl.map fun e => e.x.at_).Nodup := by
    have := hfst
    unfold thP at this
    rw [List.map_cons, List.map_map] at this
    exact this
  rw [List.nodup_cons] at hn2
  rcases B1.kind with ⟨s1, p1, q1, c1⟩ | ⟨s1, e1, he1, hk1, hb1, c1⟩
  · rcases B2.kind with ⟨s2, p2, q2, c2⟩ | ⟨s2, e2, he2, hk2, hb2, c2⟩
    · obtain ⟨hm1, hk1⟩ := efind_mem B1.fm
      obtain ⟨hm2, hk2⟩ := efind_mem B2.fm
      obtain ⟨i, hi⟩ := List.mem_iff_getElem?.1 hm1
      obtain ⟨j, hj⟩ := List.mem_iff_getElem?.1 hm2
      obtain ⟨u1, -⟩ := upT_nn (h.size hm1).1
      obtain ⟨u2, -⟩ := upT_nn (h.size hm2).1
      unfold DisjB
      rcases Nat.lt_trichotomy i j with hl | hl | hl
      · have := pw_get h.apart hi hj hl s1 s2
        omega
      · subst hl
        rw [hi] at hj
        obtain rfl := Option.some.inj hj
        exact absurd (hk1.symm.trans hk2) hne
      · have := pw_get h.apart hj hi hl s2 s1
        omega
    · refine hreg ?_
      rw [c1, c2]
      exact fun e => hn2.1 (by
        show x.tp ∈ _
        rw [show x.tp = e2.x.at_ from e]
        exact List.mem_map_of_mem (f := fun e : BkE => e.x.at_) he2)
  · rcases B2.kind with ⟨s2, p2, q2, c2⟩ | ⟨s2, e2, he2, hk2, hb2, c2⟩
    · refine hreg ?_
      rw [c1, c2]
      exact fun e => hn2.1 (by
        show x.tp ∈ _
        rw [← show e1.x.at_ = x.tp from e]
        exact List.mem_map_of_mem (f := fun e : BkE => e.x.at_) he1)
    · refine hreg ?_
      rw [c1, c2]
      intro e
      have := nodup_inj hn2.2 he1 he2 (show e1.x.at_ = e2.x.at_ from e)
      subst this
      exact hne (hk1.symm.trans hk2)
theorem keysS_nodup {t : Ts} {L : List Rg} (h : SInv t L) : (keysS t).Nodup := by
  unfold keysS
  exact (List.mergeSort_perm _ _).nodup_iff.2 h.inv.good.km

/-! ### TlsApart -/
theorem blks_mem {t : Ts} {id : Int} {b : Bk} (h : b ∈ blksS t id) : ∃ x n, efind ThE.k t.tl id = some x ∧ n ∈ keysS t ∧ blk1 t.ml x n = some b := by
  unfold blksS at h
  cases hf : efind ThE.k t.tl id with
  | none => rw [hf] at h; simp at h
  | some x =>
    rw [hf] at h
    obtain ⟨n, hn, hb⟩ := List.mem_filterMap.1 h
    exact ⟨x, n, rfl, hn, hb⟩
def allS (t : Ts) (k : Nat) : List Bk := (List.range k).flatMap fun (i : Nat) => blksS t (i : Int)
theorem allS_snoc (t : Ts) (k : Nat) : allS t (k + 1) = allS t k ++ blksS t (k : Int) := by
  unfold allS
  rw [List.range_succ, List.flatMap_append]
  simp
theorem allS_apart {t : Ts} {L : List Rg} (h : SInv t L) (k : Nat) : (allS t k).Pairwise DisjB := by
  unfold allS
  rw [List.pairwise_flatMap]
  refine ⟨fun i _ => ?_, ?_⟩
  · unfold blksS
    cases hf : efind ThE.k t.tl (i : Int) with
    | none => exact List.Pairwise.nil
    | some x =>
      show ((keysS t).filterMap (blk1 t.ml x)).Pairwise DisjB
      rw [List.pairwise_filterMap]
      refine List.Pairwise.imp ?_ (keysS_nodup h)
      intro n k hne a ha b hb
      exact h.disj_one (efind_mem hf).1 hne ha hb
  · refine List.Pairwise.imp ?_ (List.pairwise_lt_range (n := k))
    intro i j hij a ha b hb
    obtain ⟨x, n, hx, -, ha⟩ := blks_mem ha
    obtain ⟨y, k, hy, -, hb⟩ := blks_mem hb
    obtain ⟨hx1, hx2⟩ := efind_mem hx
    obtain ⟨hy1, hy2⟩ := efind_mem hy
    exact h.disj_th hx1 hy1 (by rw [hx2, hy2]; omega) ha hb
theorem blk_peek {t : Ts} {L : List Rg} (h : SInv t L) {id : Int} {b : Bk} (hb : b ∈ blksS t id) : (getS L b.at_ b.sz 0).2 = 0 ∧ 4096 ≤ b.at_ ∧ 1 ≤ b.sz ∧ b.sz ≤ 4096 ∧ b.at_ + b.sz ≤ 4294967296 := by
  obtain ⟨x, n, hx, -, hb⟩ := blks_mem hb
  obtain ⟨m, c, r, B1⟩ := h.blk_in (efind_mem hx).1 hb
  have hro := h.ok.each r B1.mem
  have h1 := hro.lo; have h2 := hro.hi
  have a1 := B1.lo; have a2 := B1.hi; have a3 := B1.sz1; have a4 := B1.sz2
  have hpm : r.pm = 3 := by
    have := B1.shp
    rcases B1.kind with ⟨-, -, -, hc⟩ | ⟨-, e, -, -, -, hc⟩
    · rw [hc] at this; exact congrArg (·.2.2) this
    · rw [hc] at this; exact congrArg (·.2.2) this
  refine ⟨?_, by omega, a3, a4, by omega⟩
  rw [get_err, if_neg (by omega)]
  exact part_three h.ok B1.mem hpm a1 (by omega) (by omega) 0 (by simp)
theorem blks_len {t : Ts} {L : List Rg} (h : SInv t L) (id : Int) : (blksS t id).length ≤ 64 := by
  unfold blksS
  split
  · exact Nat.zero_le _
  · refine Nat.le_trans (fm_len _ _) ?_
    rw [keysS_len]
    exact h.num.len

/-! ### TlsGone -/
def stS (t : Ts) (n : Int) : Bool := match efind MdE.k t.ml n with | none => false | some m => m.x.st
def aloneS (t : Ts) (l : List Bk) : Nat := (l.filter fun b => !stS t b.md).length
theorem alone_fm (t : Ts) (f : Int → Option Bk) (hf : ∀ n b, f n = some b → b.md = n) : ∀ l : List Int, aloneS t (l.filterMap f) = (l.filter fun n => (f n).isSome && !stS t n).length
  | [] => rfl
  | n :: l => by
    have ih := alone_fm t f hf l
    unfold aloneS at ih ⊢
    rw [List.filterMap_cons, List.filter_cons]
    cases hn : f n with
    | none => simpa using ih
    | some b =>
      simp only
      rw [List.filter_cons, hf n b hn]
      cases stS t n with
      | true => simpa using ih
      | false => simp [ih]
theorem SInv.alone {t : Ts} {L : List Rg} (h : SInv t L) {x : ThE} (hx : x ∈ t.tl) : aloneS t ((keysS t).filterMap (blk1 t.ml x)) = x.bl.length := by
  rw [alone_fm t _ (fun n b hb => by obtain ⟨m, c, r, B1⟩ := h.blk_in hx hb; exact B1.md)]
  have hp : ((keysS t).filter fun n => (blk1 t.ml x n).isSome && !stS t n).Perm (x.bl.map BkE.k) := by
    refine (List.perm_ext_iff_of_nodup ((keysS_nodup h).sublist List.filter_sublist) (h.inv.good.kb hx)).2 fun n => ?_
    rw [List.mem_filter]
    constructor
    · rintro ⟨hn, hc⟩
      rw [Bool.and_eq_true] at hc
      obtain ⟨b, hb⟩ := Option.isSome_iff_exists.1 hc.1
      obtain ⟨m, c, r, B1⟩ := h.blk_in hx hb
      have hs : stS t n = m.x.st := by unfold stS; rw [B1.fm]
      rcases B1.kind with ⟨s1, -⟩ | ⟨s1, e, he, hk, -⟩
      · rw [hs, s1] at hc
        simp at hc
      · rw [← hk]
        exact List.mem_map_of_mem he
    · intro hn
      obtain ⟨e, he, rfl⟩ := List.mem_map.1 hn
      obtain ⟨m, hm, hst, -⟩ := h.bk x hx e he
      have hmm := efind_mem hm
      refine ⟨keysS_mem.2 (by rw [← hmm.2]; exact List.mem_map_of_mem hmm.1), ?_⟩
      have hs : stS t e.k = false := by unfold stS; rw [hm]; exact hst
      have hf := efind_of_mem (h.inv.good.kb hx) he
      have hb : blk1 t.ml x e.k = some e.x := by
        unfold blk1
        rw [hm]
        dsimp only
        rw [if_neg (by rw [hst]; decide), hf]
        rfl
      rw [hb, hs]
      rfl
  rw [hp.length_eq, List.length_map]
structure GoneR (t : Ts) (L : List Rg) (id r : Int) (t' : Ts) (L' : List Rg) : Prop where
  bad : r ≠ 0 → r = 171 ∧ blksS t id = [] ∧ L' = L
  free : r = 0 → ∀ b ∈ blksS t id, (getS L' b.at_ 1 0).2 = 50
  len : r = 0 → L'.length + aloneS t (blksS t id) + 1 = L.length
  none : r = 0 → blksS t' id = []
theorem gone_plain {t : Ts} {L : List Rg} (h : SInv t L) {id r : Int} {t' : Ts} {L' : List Rg} (hp : ExitP t L id r t' L') : GoneR t L id r t' L' := by
  have hg := exit_gone h hp
  have hs' := h.exit hp
  unfold ExitP at hp
  cases hf : efind ThE.k t.tl id with
  | none =>
    rw [hf] at hp
    obtain ⟨rfl, -, rfl⟩ := hp
    exact ⟨fun _ => ⟨rfl, by unfold blksS; rw [hf], rfl⟩, fun hh => absurd hh (by decide), fun hh => absurd hh (by decide), fun hh => absurd hh (by decide)⟩
  | some x =>
    rw [hf] at hp
    obtain ⟨rfl, rfl, az, hz, rfl⟩ := hp
    obtain ⟨l1, l2, hl, hdel, hkx, -⟩ := efind_split hf
    have hx := (efind_mem hf).1
    have hbl : blksS t id = (keysS t).filterMap (blk1 t.ml x) := by unfold blksS; rw [hf]
    have hL' : (((unmapS (unmapsS L az) x.tp).1).map pcOf).Perm (pcs t.ar (l1 ++ l2)) := by
      have := hs'.shp
      rw [show (edel ThE.k t.tl id) = l1 ++ l2 from hdel] at this
      exact this
    have hL : (L.map pcOf).Perm (thP t.ar x ++ pcs t.ar (l1 ++ l2)) := by
      have := h.shp
      rw [hl] at this
      exact this.trans (pcs_mid t.ar x l1 l2)
    have hfil : (unmapS (unmapsS L az) x.tp).1 = L.filter fun r => decide (r.at_ ∉ az ++ [x.tp]) := by
      rw [← unmapsS_snoc, unmapsS_filter _ _ h.ok]
    refine ⟨fun hh => absurd rfl hh, fun _ b hb => ?_, fun _ => ?_, fun _ => ?_⟩
    · rw [hbl] at hb
      obtain ⟨n, -, hb⟩ := List.mem_filterMap.1 hb
      obtain ⟨m, c, r, B1⟩ := h.blk_in hx hb
      rw [get_err, if_neg (by omega)]
      cases hgt : (unmapS (unmapsS L az) x.tp).1[partK (unmapS (unmapsS L az) x.tp).1 b.at_]? with
      | none => unfold partS; rw [hgt]
      | some s =>
        exfalso
        obtain ⟨hlt, he⟩ := List.getElem?_eq_some_iff.1 hgt
        have hin : inside b.at_ s = true := by
          rw [← he]
          exact List.findIdx_getElem (p := inside b.at_) (xs := (unmapS (unmapsS L az) x.tp).1) (w := hlt)
        have hsm := List.mem_of_getElem? hgt
        have hsL : s ∈ L := by rw [hfil] at hsm; exact (List.mem_filter.1 hsm).1
        have a1 := B1.lo; have a2 := B1.hi; have a3 := B1.sz1
        obtain ⟨i, hi⟩ := List.mem_iff_getElem?.1 B1.mem
        obtain ⟨j, hj⟩ := List.mem_iff_getElem?.1 hsL
        have hij := ok_unique h.ok hi hj (inside_of a1 (by omega)) hin
        subst hij
        rw [hi] at hj
        obtain rfl := Option.some.inj hj
        have hc2 : pcOf r ∈ pcs t.ar (l1 ++ l2) := hL'.mem_iff.1 (List.mem_map_of_mem hsm)
        have hn := (hL.map (·.1)).nodup_iff.1 (by rw [List.map_map]; exact ats_nodup h.ok)
        rw [List.map_append] at hn
        have hc1 : pcOf r ∈ thP t.ar x := by rw [B1.shp]; exact B1.pc
        exact (List.nodup_append.1 hn).2.2 _ (List.mem_map_of_mem (f := (·.1)) hc1) _ (List.mem_map_of_mem (f := (·.1)) hc2) rfl
    · rw [hbl, h.alone hx]
      have e1 := hL.length_eq
      have e2 := hL'.length_eq
      rw [List.length_map, List.length_append] at e1
      rw [List.length_map] at e2
      unfold thP at e1
      rw [List.length_cons, List.length_map] at e1
      omega
    · unfold blksS
      rw [hg.1]

/-! ### TlsNumbers -/
theorem rel_ok {t : Ts} {L : List Rg} (h : SInv t L) {n : Int} {t' : Ts} {L' : List Rg} (hp : RelP t L n 0 t' L') : efind MdE.k t'.ml n = none ∧ t'.gl = t.gl ∧ 1 ≤ n ∧ n ≤ 64 := by
  unfold RelP at hp
  cases hf : efind MdE.k t.ml n with
  | none => rw [hf] at hp; exact absurd hp.1 (by decide)
  | some x =>
    rw [hf] at hp
    dsimp only at hp
    obtain ⟨hm, hk⟩ := efind_mem hf
    split at hp
    · exact absurd hp.1 (by decide)
    · obtain ⟨-, rfl, -⟩ := hp
      exact ⟨efind_none_of (edel_ne h.inv.good.km), rfl, by rw [← hk]; exact h.k1 x hm, by rw [← hk]; exact (h.inv.key x hm).1⟩
theorem addr_none {t : Ts} {L : List Rg} {id n off p r : Int} {t' : Ts} {L' : List Rg} (hf : efind MdE.k t.ml n = none) (hp : AddrP t L id n off p r t' L') : (r = 170 ∨ r = 171) ∧ t' = t ∧ L' = L := by
  unfold AddrP at hp
  split at hp
  · exact ⟨.inr hp.2.1, hp.2.2.1, hp.2.2.2⟩
  · rw [hf] at hp
    exact ⟨.inl hp.2.1, hp.2.2.1, hp.2.2.2⟩
theorem mszS_zero {l : List MdE} {n : Int} (h : efind MdE.k l n = none) : mszS l n = 0 := by unfold mszS; rw [h]; rfl
theorem free_le {l : List MdE} {n m : Int} (hm : FreeN l m) (h : efind MdE.k l n = none) (h1 : 1 ≤ n) : m ≤ n := by
  by_cases hle : m ≤ n
  · exact hle
  · have := hm.2.2.1 n h1 (by omega)
    rw [mszS_zero h] at this
    exact absurd this (by decide)
structure NumR (t t3 : Ts) (n k r id : Int) : Prop where
  bad : r ≠ 0 → k = 0 ∧ r = 1
  le : r = 0 → k ≤ n
  lo : r = 0 → 1 ≤ k
  gen : r = 0 → k = n → gget t3.gl n = wrap64 (gget t.gl n + 1)
  blks : r = 0 → ∀ b ∈ blksS t3 id, b.md ≠ k
theorem num_plain {t t2 : Ts} {L : List Rg} (h : SInv t2 L) {n : Int} (hf : efind MdE.k t2.ml n = none) (hgl : t2.gl = t.gl) (h1 : 1 ≤ n) (h64 : n ≤ 64) {tm : List UInt8} {size k r : Int} {t3 : Ts} (id : Int) (hp : RegP t2 tm size false k r t3) : NumR t t3 n k r id := by
  have h3 := h.reg hp
  by_cases hr : r = 0
  · subst hr
    obtain ⟨y, hy1, hy2, -, -, z1, z2, z3, hfr, hk64, hfk, v, rfl⟩ := reg_ok h hp
    refine ⟨fun hh => absurd rfl hh, fun _ => free_le hfr hf h1, fun _ => hfr.1, fun _ hkn => ?_, fun _ b hb hbk => ?_⟩
    · subst hkn
      show gget (gsetL t2 k (wrap64 (gget t2.gl k + 1))) k = _
      rw [gget_gset, if_pos rfl, hgl]
    · obtain ⟨x, n', hx, hn', hb⟩ := blks_mem hb
      have hxm := (efind_mem hx).1
      obtain ⟨m, c, r, B1⟩ := h3.blk_in hxm hb
      have hnk : n' = k := B1.md.symm.trans hbk
      subst hnk
      have hmy := B1.fm
      rw [hy1] at hmy
      obtain rfl := Option.some.inj hmy
      rcases B1.kind with ⟨s1, -⟩ | ⟨s1, e, he, hek, -⟩
      · rw [hy2] at s1; cases s1
      · obtain ⟨m', hm', -⟩ := h.bk x hxm e he
        rw [hek, hfk] at hm'
        cases hm'
  · refine ⟨fun _ => ⟨reg_err hp hr, ?_⟩, fun hh => absurd hh hr, fun hh => absurd hh hr, fun hh => absurd hh hr, fun hh => absurd hh hr⟩
    unfold RegP at hp
    split at hp
    · exact hp.2.1
    split at hp
    · rename_i hh; cases hh.1
    obtain ⟨m, hm, hp⟩ := hp
    have hle := free_le hm hf h1
    rw [if_neg (by omega), if_neg (by rintro ⟨hh, -⟩; cases hh)] at hp
    exact absurd hp.2.1 hr
end Go.Proofs.YtpenejigebkkmaaGreat

namespace Go.Proofs.YtpenejigebkkmaaGreat
open Go.RowKit Spm
set_option linter.unusedVariables false
set_option linter.unusedSimpArgs false
attribute [local irreducible] wpList

def bhS (t : Ts) (n : Int) : Int := match efind MdE.k t.ml n with | none => 0 | some m => m.x.bh
set_option maxRecDepth 100000 in
set_option maxHeartbeats 4000000 in
theorem tstatic_any {B : Nat} {w wr : World} {Y : Res} [hY : Fr Y] {s : Nat} {t : Ts} (h : Has B w wr (Tl s t Y)) (n : Int) : Calls Tryz.prog 33 #[.pointer (some ⟨s, 0, none⟩), .int .i64 n] wr fun e w' => e = .returned (.tuple #[.int .i64 (bhS t n), .bool (stS t n)]) ∧ Has B w w' (Tl s t Y) := by
  have M0 := Lib.hid h
  have s0 : wr.cell? ⟨s, 0, none⟩ = some (.map (some t.gm)) := M0.out.cellat s 0 rfl
  have hmg := mget_efind (ent := MdE.ent) (key := MdE.k) (fun _ => rfl) n t.ml
  obtain ⟨X, vv, hv, hvv, hst, hbh⟩ : ∃ (X : Mdl) (vv : Value), (mget (t.ml.map MdE.ent) n).getD (.agg #[.int .i64 0, .int .i64 0, .slice none 0 0, .bool false, .int .i64 0]) = .agg (mdA X vv) ∧ (∃ A n c, vv = .slice A n c) ∧ X.st = stS t n ∧ X.bh = bhS t n := by
    unfold stS bhS
    rw [hmg]
    cases hf : efind MdE.k t.ml n with
    | none => exact ⟨⟨0, 0, [], false, 0⟩, .slice none 0 0, rfl, ⟨_, _, _, rfl⟩, rfl, rfl⟩
    | some m =>
      obtain ⟨m1, m2, hml, -⟩ := efind_split hf
      obtain ⟨yA, yc, hyv, -, -⟩ := (Tl.tmpl h hml).src
      exact ⟨m.x, m.v, rfl, ⟨_, _, _, hyv⟩, rfl, rfl⟩
  obtain ⟨A, n0, c, hvv⟩ := hvv
  have HVV := Lib.hid hvv
  have Na := Lib.hid (M0.out.newcel 62 #[.int .i64 0, .int .i64 0, .slice none 0 0, .bool false, .int .i64 0])
  have Nb := Lib.hid (Na.out.rowc wr.heap.size (mdA X vv))
  rw [← hst, ← hbh]
  clear h hmg hvv hst hbh
  go_enter Tryz.func33, Tryz.ntmps33
  go_upto_region 2 with (first | (refine wpList_mlookV rfl 52 3 62 _ _ rfl Tryz.underlying52 Tryz.underlying3 t.gm _ _ rfl n rfl (M0.out.getm t.gm) (.agg #[.int .i64 0, .int .i64 0, .slice none 0 0, .bool false, .int .i64 0]) z_mod (.agg (mdA X vv)) hv ?_) | (refine wpList_store_row rfl 62 _ _ rfl wr.heap.size (mdA X vv) rfl rfl 62 #[.int .i64 0, .int .i64 0, .slice none 0 0, .bool false, .int .i64 0] (Na.out.getc wr.heap.size) (by kernel_rfl) rfl (mdA_one HVV.out) ?_))
  obtain ⟨W1, hW⟩ : ∃ W1, (wr.alloc (.cells #[.int .i64 0, .int .i64 0, .slice none 0 0, .bool false, .int .i64 0] 62)).setRow wr.heap.size (mdA X vv) = W1 := ⟨_, rfl⟩
  rw [hW] at Nb ⊢
  have z3 : W1.cell? ⟨wr.heap.size, 3, none⟩ = some (.bool X.st) := Nb.out.cellat wr.heap.size 3 rfl
  have z4 : W1.cell? ⟨wr.heap.size, 4, none⟩ = some (.int .i64 X.bh) := Nb.out.cellat wr.heap.size 4 rfl
  have NZ := Lib.hid (Nb.out.norm (Tl s t Y))
  clear hW Na Nb M0 s0 hv
  generalize wr.heap.size = x6 at z3 z4 ⊢
  go_quiet (fail)
  have NW := Lib.hid (NZ.out.stay (below_drewN (Below.refl _ _) nq))
  go_wp2_with fail
  go_ret2
  exact ⟨rfl, NW.out⟩

end Go.Proofs.YtpenejigebkkmaaGreat
