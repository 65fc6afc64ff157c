/-
  Layer 17, plain: where addresses lie; TlsOwn's and TlsFresh's laws.
  Conditions: none. (My own text.)
-/
import Derived.Test.YtpenejigebkkmaaTmu
namespace Go.Proofs.Ytpenejigebkkmaa
open Go.RowKit Spm
set_option linter.unusedVariables false
set_option linter.unusedSimpArgs false

section
variable {α : Type} {key : α → Int}
theorem efind_eset_same {st : α → Nat} {mk : Nat → α} {c : Nat} {k : Int} (hmk : ∀ b, key (mk b) = k) {x : α} : ∀ {l : List α}, efind key l k = some x → efind key (eset key st mk c l k) k = some (mk (st x))
  | [], h => by cases h
  | y :: l, h => by
    unfold efind at h
    unfold eset
    by_cases hk : k = key y
    · rw [if_pos hk] at h ⊢
      obtain rfl := Option.some.inj h
      unfold efind
      rw [if_pos (hmk _).symm]
    · rw [if_neg hk] at h ⊢
      unfold efind
      rw [if_neg hk]
      exact efind_eset_same hmk h
theorem efind_eset_ne {st : α → Nat} {mk : Nat → α} {c : Nat} {k j : Int} (hmk : ∀ b, key (mk b) = k) (hj : j ≠ k) : ∀ {l : List α}, efind key (eset key st mk c l k) j = efind key l j
  | [] => by
    show efind key [mk c] j = none
    unfold efind
    rw [if_neg (by rw [hmk]; exact hj)]
    rfl
  | y :: l => by
    unfold eset
    by_cases hk : k = key y
    · rw [if_pos hk]
      unfold efind
      rw [if_neg (by rw [hmk]; exact hj), if_neg (by rw [← hk]; exact hj)]
    · rw [if_neg hk]
      unfold efind
      rw [efind_eset_ne hmk hj]
end
theorem addB_find {id n : Int} {x : ThE} {y : MdE} {q : Int} {tl : List ThE} (hx : efind ThE.k tl id = some x) : efind ThE.k (addB id n x y q tl) id = some ⟨id, x.tp, x.g, x.bl ++ [newB n y q x.c], x.c + 1, x.b⟩ := by
  unfold addB
  exact efind_eset_same (mk := fun b => (⟨id, x.tp, x.g, x.bl ++ [newB n y q x.c], x.c + 1, b⟩ : ThE)) (fun b => rfl) hx
theorem addB_find_ne {id id2 n : Int} {x : ThE} {y : MdE} {q : Int} {tl : List ThE} (hne : id ≠ id2) : efind ThE.k (addB id2 n x y q tl) id = efind ThE.k tl id := by
  unfold addB
  exact efind_eset_ne (mk := fun b => (⟨id2, x.tp, x.g, x.bl ++ [newB n y q x.c], x.c + 1, b⟩ : ThE)) (fun b => rfl) hne
/-- An address of a block that is there. -/
def AddrHas (t : Ts) (id n off p : Int) : Prop := ∃ x y, efind ThE.k t.tl id = some x ∧ efind MdE.k t.ml n = some y ∧ ¬ (off < 0 ∨ y.x.size ≤ off) ∧ ((y.x.st = true ∧ p = wrap64 (wrap64 (x.tp + y.x.bh) + off)) ∨ (¬ y.x.st = true ∧ ∃ b, efind BkE.k x.bl n = some b ∧ p = wrap64 (b.x.at_ + off)))
theorem has_addr {t : Ts} {L : List Rg} {id n off p p2 r2 : Int} {t2 : Ts} {L2 : List Rg} (h : AddrHas t id n off p) (hp : AddrP t L id n off p2 r2 t2 L2) : p2 = p ∧ r2 = 0 ∧ t2 = t ∧ L2 = L := by
  obtain ⟨x, y, hx, hy, ho, h⟩ := h
  unfold AddrP at hp
  rw [hx] at hp
  dsimp only at hp
  rw [hy] at hp
  dsimp only at hp
  rw [if_neg ho] at hp
  rcases h with ⟨h1, rfl⟩ | ⟨h1, b, hb, rfl⟩
  · rw [if_pos h1] at hp; exact hp
  · rw [if_neg h1] at hp
    unfold AddrBP at hp
    rw [hb] at hp
    exact hp
theorem addr_ml {t : Ts} {L : List Rg} {id n off p r : Int} {t' : Ts} {L' : List Rg} (hp : AddrP t L id n off p r t' L') : t'.ml = t.ml ∧ t'.ar = t.ar ∧ t'.gl = t.gl ∧ t'.sd = t.sd := by
  unfold AddrP at hp
  split at hp
  · obtain ⟨-, -, rfl, -⟩ := hp; exact ⟨rfl, rfl, rfl, rfl⟩
  split at hp
  · obtain ⟨-, -, rfl, -⟩ := hp; exact ⟨rfl, rfl, rfl, rfl⟩
  split at hp
  · obtain ⟨-, -, rfl, -⟩ := hp; exact ⟨rfl, rfl, rfl, rfl⟩
  split at hp
  · obtain ⟨-, -, rfl, -⟩ := hp; exact ⟨rfl, rfl, rfl, rfl⟩
  unfold AddrBP at hp
  split at hp
  · obtain ⟨-, -, rfl, -⟩ := hp; exact ⟨rfl, rfl, rfl, rfl⟩
  split at hp
  · obtain ⟨-, -, rfl, -⟩ := hp; exact ⟨rfl, rfl, rfl, rfl⟩
  · obtain ⟨-, -, rfl, -⟩ := hp; exact ⟨rfl, rfl, rfl, rfl⟩
theorem addr_has {t : Ts} {L : List Rg} {id n off p : Int} {t' : Ts} {L' : List Rg} (hp : AddrP t L id n off p 0 t' L') : AddrHas t' id n off p := by
  unfold AddrP at hp
  cases hx : efind ThE.k t.tl id with
  | none => rw [hx] at hp; exact absurd hp.2.1 (by decide)
  | some x =>
    rw [hx] at hp
    dsimp only at hp
    cases hy : efind MdE.k t.ml n with
    | none => rw [hy] at hp; exact absurd hp.2.1 (by decide)
    | some y =>
      rw [hy] at hp
      dsimp only at hp
      by_cases ho : off < 0 ∨ y.x.size ≤ off
      · rw [if_pos ho] at hp; exact absurd hp.2.1 (by decide)
      rw [if_neg ho] at hp
      by_cases hs : y.x.st = true
      · rw [if_pos hs] at hp
        obtain ⟨rfl, -, rfl, -⟩ := hp
        exact ⟨x, y, hx, hy, ho, .inl ⟨hs, rfl⟩⟩
      rw [if_neg hs] at hp
      unfold AddrBP at hp
      cases hb : efind BkE.k x.bl n with
      | some b =>
        rw [hb] at hp
        obtain ⟨rfl, -, rfl, -⟩ := hp
        exact ⟨x, y, hx, hy, ho, .inr ⟨hs, b, hb, rfl⟩⟩
      | none =>
        rw [hb] at hp
        dsimp only at hp
        by_cases he : (mapS L y.x.size 3).2.2 = 0
        · rw [if_pos he] at hp
          obtain ⟨rfl, -, rfl, -⟩ := hp
          refine ⟨_, y, addB_find hx, hy, ho, .inr ⟨hs, newB n y (mapS L y.x.size 3).2.1 x.c, ?_, rfl⟩⟩
          show efind BkE.k (x.bl ++ [_]) n = _
          rw [efind_app_none hb]
          unfold efind
          rw [if_pos (show n = (newB n y (mapS L y.x.size 3).2.1 x.c).k from rfl)]
        · rw [if_neg he] at hp
          exact absurd hp.2.1.symm he
theorem has_keep {t : Ts} {L : List Rg} {id id2 n off p n2 off2 p2 r2 : Int} {t2 : Ts} {L2 : List Rg} (h : AddrHas t id n off p) (hne : id ≠ id2) (hp : AddrP t L id2 n2 off2 p2 r2 t2 L2) : AddrHas t2 id n off p := by
  have hk : efind ThE.k t2.tl id = efind ThE.k t.tl id := by
    unfold AddrP at hp
    split at hp
    · obtain ⟨-, -, rfl, -⟩ := hp; rfl
    split at hp
    · obtain ⟨-, -, rfl, -⟩ := hp; rfl
    split at hp
    · obtain ⟨-, -, rfl, -⟩ := hp; rfl
    split at hp
    · obtain ⟨-, -, rfl, -⟩ := hp; rfl
    unfold AddrBP at hp
    split at hp
    · obtain ⟨-, -, rfl, -⟩ := hp; rfl
    split at hp
    · obtain ⟨-, -, rfl, -⟩ := hp
      exact addB_find_ne hne
    · obtain ⟨-, -, rfl, -⟩ := hp; rfl
  obtain ⟨x, y, hx, hy, h⟩ := h
  exact ⟨x, y, hk.trans hx, by rw [(addr_ml hp).1]; exact hy, h⟩
theorem addr_fail {t : Ts} {L : List Rg} {id n off p r : Int} {t' : Ts} {L' : List Rg} (hp : AddrP t L id n off p r t' L') (hr : r ≠ 0) : p = 0 ∧ t' = t ∧ L' = L := by
  unfold AddrP at hp
  split at hp
  · obtain ⟨rfl, -, rfl, rfl⟩ := hp; exact ⟨rfl, rfl, rfl⟩
  split at hp
  · obtain ⟨rfl, -, rfl, rfl⟩ := hp; exact ⟨rfl, rfl, rfl⟩
  split at hp
  · obtain ⟨rfl, -, rfl, rfl⟩ := hp; exact ⟨rfl, rfl, rfl⟩
  split at hp
  · exact absurd hp.2.1 hr
  unfold AddrBP at hp
  split at hp
  · exact absurd hp.2.1 hr
  split at hp
  · exact absurd hp.2.1 hr
  · rename_i he
    obtain ⟨rfl, -, rfl, rfl⟩ := hp
    exact ⟨rfl, rfl, map_refused he⟩
theorem addr_fun {t : Ts} {L : List Rg} {id n off p r p2 r2 : Int} {t' t2 : Ts} {L' L2 : List Rg} (hp : AddrP t L id n off p r t' L') (hq : AddrP t L id n off p2 r2 t2 L2) : p2 = p ∧ r2 = r := by
  unfold AddrP at hp hq
  cases hx : efind ThE.k t.tl id with
  | none => rw [hx] at hp hq; exact ⟨hq.1.trans hp.1.symm, hq.2.1.trans hp.2.1.symm⟩
  | some x =>
    rw [hx] at hp hq
    dsimp only at hp hq
    cases hy : efind MdE.k t.ml n with
    | none => rw [hy] at hp hq; exact ⟨hq.1.trans hp.1.symm, hq.2.1.trans hp.2.1.symm⟩
    | some y =>
      rw [hy] at hp hq
      dsimp only at hp hq
      by_cases ho : off < 0 ∨ y.x.size ≤ off
      · rw [if_pos ho] at hp hq; exact ⟨hq.1.trans hp.1.symm, hq.2.1.trans hp.2.1.symm⟩
      rw [if_neg ho] at hp hq
      by_cases hs : y.x.st = true
      · rw [if_pos hs] at hp hq; exact ⟨hq.1.trans hp.1.symm, hq.2.1.trans hp.2.1.symm⟩
      rw [if_neg hs] at hp hq
      unfold AddrBP at hp hq
      cases hb : efind BkE.k x.bl n with
      | some b => rw [hb] at hp hq; exact ⟨hq.1.trans hp.1.symm, hq.2.1.trans hp.2.1.symm⟩
      | none =>
        rw [hb] at hp hq
        dsimp only at hp hq
        by_cases he : (mapS L y.x.size 3).2.2 = 0
        · rw [if_pos he] at hp hq; exact ⟨hq.1.trans hp.1.symm, hq.2.1.trans hp.2.1.symm⟩
        · rw [if_neg he] at hp hq; exact ⟨hq.1.trans hp.1.symm, hq.2.1.trans hp.2.1.symm⟩
/-- Twice the same. -/
theorem addr_twice {t : Ts} {L : List Rg} {id n off p r p2 r2 : Int} {t' t2 : Ts} {L' L2 : List Rg} (hp : AddrP t L id n off p r t' L') (hq : AddrP t' L' id n off p2 r2 t2 L2) : p2 = p ∧ r2 = r := by
  by_cases hr : r = 0
  · subst hr
    obtain ⟨h1, h2, -⟩ := has_addr (addr_has hp) hq
    exact ⟨h1, h2⟩
  · obtain ⟨-, rfl, rfl⟩ := addr_fail hp hr
    exact addr_fun hp hq

theorem SInv.reg_of {t : Ts} {L : List Rg} (h : SInv t L) {x : ThE} (hx : x ∈ t.tl) {c : Pc} (hc : c ∈ thP t.ar x) : ∃ r ∈ L, pcOf r = c := by
  have : c ∈ pcs t.ar t.tl := List.mem_flatMap.2 ⟨x, hx, hc⟩
  exact List.mem_map.1 (h.shp.mem_iff.2 this)
theorem SInv.fst {t : Ts} {L : List Rg} (h : SInv t L) : ((pcs t.ar t.tl).map (·.1)).Nodup := by
  have h1 : ((L.map pcOf).map (·.1)).Nodup := by
    rw [List.map_map]
    exact ats_nodup h.ok
  exact (h.shp.map (·.1)).nodup_iff.1 h1
theorem SInv.apart2 {t : Ts} {L : List Rg} (h : SInv t L) {x y : ThE} (hx : x ∈ t.tl) (hy : y ∈ t.tl) (hne : x.k ≠ y.k) {c d : Pc} (hc : c ∈ thP t.ar x) (hd : d ∈ thP t.ar y) : c.1 ≠ d.1 := by
  obtain ⟨l1, l2, hl⟩ := List.append_of_mem hx
  have hn := h.fst
  rw [hl] at hn hy
  have hn2 := ((pcs_mid t.ar x l1 l2).map (·.1)).nodup_iff.1 hn
  rw [List.map_append] at hn2
  have hy2 : y ∈ l1 ++ l2 := by
    simp only [List.mem_append, List.mem_cons] at hy ⊢
    rcases hy with hy | rfl | hy
    · exact .inl hy
    · exact absurd rfl hne
    · exact .inr hy
  exact (List.nodup_append.1 hn2).2.2 _ (List.mem_map_of_mem (f := (·.1)) hc) _ (List.mem_map_of_mem (f := (·.1)) (List.mem_flatMap.2 ⟨y, hy2, hd⟩))
theorem SInv.size {t : Ts} {L : List Rg} (h : SInv t L) {y : MdE} (hy : y ∈ t.ml) : 1 ≤ y.x.size ∧ y.x.size ≤ 4096 := ⟨(h.inv.key y hy).2, (h.inv.ok y hy).2⟩
theorem SInv.has_in {t : Ts} {L : List Rg} (h : SInv t L) {id n off p : Int} (ha : AddrHas t id n off p) : ∃ x c r, x ∈ t.tl ∧ x.k = id ∧ c ∈ thP t.ar x ∧ r ∈ L ∧ pcOf r = c ∧ r.pm = 3 ∧ r.at_ ≤ p ∧ p < r.at_ + r.sz := by
  obtain ⟨x, y, hx, hy, ho, ha⟩ := ha
  obtain ⟨hxm, hxk⟩ := efind_mem hx
  obtain ⟨hym, hyk⟩ := efind_mem hy
  obtain ⟨z1, z2⟩ := h.size hym
  rcases ha with ⟨hs, rfl⟩ | ⟨hs, b, hb, rfl⟩
  · obtain ⟨r, hr, hsr⟩ := h.reg_of hxm (c := (x.tp, up (max 8 t.ar), 3)) (List.mem_cons_self ..)
    have e1 : r.at_ = x.tp := congrArg (·.1) hsr
    have e2 : r.sz = up (max 8 t.ar) := congrArg (·.2.1) hsr
    have e3 : r.pm = 3 := congrArg (·.2.2) hsr
    have hro := h.ok.each r hr
    have h1 := hro.lo
    have h2 := hro.hi
    obtain ⟨s1, s2⟩ := h.sta y hym hs
    obtain ⟨u1, -⟩ := upT_nn z1
    have a1 := h.a1
    obtain ⟨u3, -⟩ := up_ge (max 8 t.ar) (by omega)
    have w1 : wrap64 (x.tp + y.x.bh) = x.tp + y.x.bh := by simp only [wrap64]; omega
    have w2 : wrap64 (x.tp + y.x.bh + off) = x.tp + y.x.bh + off := by simp only [wrap64]; omega
    refine ⟨x, _, r, hxm, hxk, List.mem_cons_self .., hr, hsr, e3, ?_, ?_⟩
    · rw [w1, w2]; omega
    · rw [w1, w2]; omega
  · obtain ⟨hbm, hbk⟩ := efind_mem hb
    obtain ⟨m, hm, -, -, -, hsz⟩ := h.bk x hxm b hbm
    rw [hbk, hy] at hm
    obtain rfl := Option.some.inj hm
    have hc : bkP b ∈ thP t.ar x := List.mem_cons_of_mem _ (List.mem_map_of_mem hbm)
    obtain ⟨r, hr, hsr⟩ := h.reg_of hxm hc
    have e1 : r.at_ = b.x.at_ := congrArg (·.1) hsr
    have e2 : r.sz = up b.x.sz := congrArg (·.2.1) hsr
    have e3 : r.pm = 3 := congrArg (·.2.2) hsr
    have hro := h.ok.each r hr
    have h1 := hro.lo
    have h2 := hro.hi
    obtain ⟨u3, -⟩ := up_ge b.x.sz (by omega)
    have w1 : wrap64 (b.x.at_ + off) = b.x.at_ + off := by simp only [wrap64]; omega
    refine ⟨x, _, r, hxm, hxk, hc, hr, hsr, e3, ?_, ?_⟩
    · rw [w1]; omega
    · rw [w1]; omega

/-! ### One byte -/
theorem part_three {L : List Rg} (h : Ok L) {r : Rg} (hr : r ∈ L) (hp : r.pm = 3) {x : Int} {n : Nat} (h1 : r.at_ ≤ x) (h2 : x + n ≤ r.at_ + r.sz) (hn : 1 ≤ n) (m : Int) (hm : m = 0 ∨ m = 1 ∨ m = 2) : partS L x n m = 0 := by
  obtain ⟨i, hi⟩ := List.mem_iff_getElem?.1 hr
  have hk := partK_eq h hi (inside_of h1 (by omega))
  rw [partS_some (hk ▸ hi), if_neg (by omega), if_neg]
  rw [hp]
  rcases hm with rfl | rfl | rfl <;> decide
theorem set_as {L : List Rg} {x : Int} {b : List UInt8} {p q : Int} (h1 : partS L x b.length p = 0) (h2 : partS L x b.length q = 0) : setS L x b p = setS L x b q := by
  unfold setS
  rw [h1, h2]
theorem get_as {L : List Rg} {x n p q : Int} (h1 : partS L x n.toNat p = 0) (h2 : partS L x n.toNat q = 0) : getS L x n p = getS L x n q := by
  unfold getS
  rw [h1, h2]
theorem set_part (L : List Rg) (x y p q : Int) (n : Nat) (b : List UInt8) : partS (setS L x b q).1 y n p = partS L y n p := by
  unfold setS
  split
  · rfl
  split
  · rfl
  exact partS_modify (fun r => { r with bs := over r.bs (x - r.at_).toNat b }) (fun _ => rfl) (fun _ => rfl) (fun _ => rfl) _ _ _ _ _
/-- TlsOwn's law. -/
structure OwnR (L : List Rg) (p q : Int) (b : UInt8) : Prop where
  ok : Ok L
  r0 : (getS L q 1 1).2 = 0
  w0 : (setS L p [b] 2).2 = 0
  ne : p ≠ q
  same : getS (setS L p [b] 2).1 q 1 1 = getS L q 1 1
  mine : getS (setS L p [b] 2).1 p 1 1 = ([b], 0)
  p0 : 4096 ≤ p
  p1 : p ≤ 4294967296
  q0 : 4096 ≤ q
  q1 : q ≤ 4294967296
theorem own_plain {t : Ts} {L : List Rg} (h : SInv t L) {x y n off p q : Int} (hx : AddrHas t x n off p) (hy : AddrHas t y n off q) (hne : x ≠ y) (b : UInt8) : OwnR L p q b := by
  obtain ⟨tx, c, r, hxm, hxk, hc, hr, hsr, hrp, r1, r2⟩ := h.has_in hx
  obtain ⟨ty, d, s, hym, hyk, hd, hs, hss, hsp, s1, s2⟩ := h.has_in hy
  have hcd := h.apart2 hxm hym (by rw [hxk, hyk]; exact hne) hc hd
  rw [← hsr, ← hss] at hcd
  have hcd' : r.at_ ≠ s.at_ := hcd
  have hro := h.ok.each r hr
  have hso := h.ok.each s hs
  obtain ⟨i, hi⟩ := List.mem_iff_getElem?.1 hr
  obtain ⟨j, hj⟩ := List.mem_iff_getElem?.1 hs
  have hpq : p ≠ q := by
    rintro rfl
    have := ok_unique h.ok hi hj (inside_of r1 r2) (inside_of s1 s2)
    subst this
    rw [hi] at hj
    obtain rfl := Option.some.inj hj
    exact hcd' rfl
  have p0 : ∀ m, m = 0 ∨ m = 1 ∨ m = 2 → partS L p 1 m = 0 := fun m hm => part_three h.ok hr hrp r1 (by omega) (Nat.le_refl _) m hm
  have q0 : ∀ m, m = 0 ∨ m = 1 ∨ m = 2 → partS L q 1 m = 0 := fun m hm => part_three h.ok hs hsp s1 (by omega) (Nat.le_refl _) m hm
  have eset : setS L p [b] 2 = setS L p [b] 0 := set_as (p0 2 (by simp)) (p0 0 (by simp))
  have eget : getS L q 1 1 = getS L q 1 0 := get_as (q0 1 (by simp)) (q0 0 (by simp))
  have eget2 : getS (setS L p [b] 0).1 q 1 1 = getS (setS L p [b] 0).1 q 1 0 := get_as (by rw [set_part]; exact q0 1 (by simp)) (by rw [set_part]; exact q0 0 (by simp))
  have eget3 : getS (setS L p [b] 0).1 p 1 1 = getS (setS L p [b] 0).1 p 1 0 := get_as (by rw [set_part]; exact p0 1 (by simp)) (by rw [set_part]; exact p0 0 (by simp))
  have g0 : (getS L q 1 0).2 = 0 := by rw [get_err, if_neg (by omega)]; exact q0 0 (by simp)
  have w0 : (setS L p [b] 0).2 = 0 := by
    unfold setS
    rw [if_neg (by simp)]
    rw [if_neg (by rw [show [b].length = 1 from rfl, p0 0 (by simp)]; simp)]
  have a1 := hro.lo; have a2 := hro.hi; have a3 := hso.lo; have a4 := hso.hi
  refine ⟨h.ok, by rw [eget]; exact g0, by rw [eset]; exact w0, hpq, ?_, ?_, by omega, by omega, by omega, by omega⟩
  · rw [eset, eget, eget2]
    refine Prod.ext (set_other h.ok w0 g0 (by show q < p ∨ p + ((1 : Nat) : Int) ≤ q; omega)) ?_
    exact get_err_set L p q 1 0 0 [b]
  · rw [eset, eget3]
    exact set_get h.ok w0

/-! ### TlsFresh -/
theorem map_err3 {L : List Rg} (h : Ok L) {n : Int} (h1 : 1 ≤ n) (h2 : n ≤ 1048576) : (mapS L n 3).2.2 = 0 ∨ (mapS L n 3).2.2 = 3 := by
  by_cases hg : (gapS L n).2 = 0
  · rw [map_gap h hg (by omega)]
    exact .inl rfl
  · rw [map_full (by omega) hg]
    simp only
    unfold gapS at hg ⊢
    rw [if_neg (by omega)] at hg ⊢
    split
    · exact .inr rfl
    · exact .inl rfl
theorem exit_gone {t : Ts} {L : List Rg} (h : SInv t L) {id r : Int} {t' : Ts} {L' : List Rg} (hp : ExitP t L id r t' L') : efind ThE.k t'.tl id = none ∧ t'.ml = t.ml ∧ t'.ar = t.ar ∧ t'.gl = t.gl := by
  unfold ExitP at hp
  cases hf : efind ThE.k t.tl id with
  | none => rw [hf] at hp; obtain ⟨-, rfl, -⟩ := hp; exact ⟨hf, rfl, rfl, rfl⟩
  | some x =>
    rw [hf] at hp
    obtain ⟨-, rfl, -⟩ := hp
    exact ⟨efind_none_of (edel_ne h.inv.good.kt), rfl, rfl, rfl⟩
theorem start_fresh {t : Ts} {L : List Rg} (h : SInv t L) {id n r : Int} {t' : Ts} {L' : List Rg} (hid : efind ThE.k t.tl id = none) (h0 : 0 ≤ id) (h1 : id < 16) (hp : StartP t L id n r t' L') : (r = 0 ∨ r = 3) ∧ t'.ml = t.ml ∧ (r = 0 → ∃ x, efind ThE.k t'.tl id = some x ∧ x.bl = []) := by
  have a0 := h.a0
  have a1 := h.a1
  unfold StartP at hp
  rw [if_neg (by rw [hid]; simp; omega)] at hp
  split at hp
  · obtain ⟨-, rfl, ⟨g, rfl⟩, -⟩ := hp
    refine ⟨.inl rfl, rfl, fun _ => ⟨⟨id, (mapS L (max 8 t.ar) 3).2.1, g, [], 0, t.tc⟩, ?_, rfl⟩⟩
    rw [efind_app_none hid]
    unfold efind
    rw [if_pos rfl]
  · rename_i he
    obtain ⟨-, rfl, rfl, -⟩ := hp
    rcases map_err3 h.ok (n := max 8 t'.ar) (by omega) (by omega) with h3 | h3
    · exact absurd h3 he
    · exact ⟨.inr h3, rfl, fun hh => absurd hh he⟩
theorem fresh_plain {t : Ts} {L : List Rg} (h : SInv t L) {id n p r : Int} {t' : Ts} {L' : List Rg} {x : ThE} {y : MdE} (hx : efind ThE.k t.tl id = some x) (hb : x.bl = []) (hy : efind MdE.k t.ml n = some y) (hst : y.x.st = false) (hp : AddrP t L id n 0 p r t' L') :
    (r = 0 ∨ r = 3) ∧ (r = 0 → getS L' p y.x.size 1 = (fullB y.x, 0) ∧ p ≤ 4294967296) := by
  obtain ⟨z1, z2⟩ := h.size (efind_mem hy).1
  have z3 := (h.inv.ok y (efind_mem hy).1).1
  unfold AddrP at hp
  rw [hx] at hp
  dsimp only at hp
  rw [hy] at hp
  dsimp only at hp
  rw [if_neg (by omega), if_neg (by rw [hst]; simp)] at hp
  unfold AddrBP at hp
  rw [hb] at hp
  have hp' : if (mapS L y.x.size 3).2.2 = 0 then p = wrap64 ((mapS L y.x.size 3).2.1 + 0) ∧ r = 0 ∧ t' = { t with tl := addB id n x y (mapS L y.x.size 3).2.1 t.tl } ∧ L' = (setS (mapS L y.x.size 3).1 (mapS L y.x.size 3).2.1 (fullB y.x) 0).1
    else p = 0 ∧ r = (mapS L y.x.size 3).2.2 ∧ t' = t ∧ L' = (mapS L y.x.size 3).1 := hp
  by_cases he : (mapS L y.x.size 3).2.2 = 0
  · rw [if_pos he] at hp'
    obtain ⟨rfl, rfl, -, rfl⟩ := hp'
    refine ⟨.inl rfl, fun _ => ?_⟩
    have hok := h.ok.map y.x.size 3
    have hmem : (⟨(mapS L y.x.size 3).2.1, up y.x.size, 3, zeros (up y.x.size)⟩ : Rg) ∈ (mapS L y.x.size 3).1 := (mapS_perm h.ok he).mem_iff.2 (List.mem_cons_self ..)
    have hro := hok.each _ hmem
    have h1 : 4096 ≤ (mapS L y.x.size 3).2.1 := hro.lo
    have h2 : (mapS L y.x.size 3).2.1 + up y.x.size ≤ 4294967296 := hro.hi
    obtain ⟨u1, -⟩ := up_ge y.x.size z1
    have hw : wrap64 ((mapS L y.x.size 3).2.1 + 0) = (mapS L y.x.size 3).2.1 := by simp only [wrap64]; omega
    rw [hw]
    have hlen : ((fullB y.x).length : Int) = y.x.size := fullB_len z3
    have hne : fullB y.x ≠ [] := by
      intro hh
      rw [hh] at hlen
      simp at hlen
      omega
    obtain ⟨s1, s2⟩ := set_there hok hmem hne (by rw [hlen]; exact u1)
    have g1 := set_get hok s1
    have pp : ∀ m, m = 0 ∨ m = 1 ∨ m = 2 → partS (mapS L y.x.size 3).1 (mapS L y.x.size 3).2.1 y.x.size.toNat m = 0 := fun m hm => part_three hok hmem rfl (Int.le_refl _) (by show (mapS L y.x.size 3).2.1 + ((y.x.size.toNat : Nat) : Int) ≤ (mapS L y.x.size 3).2.1 + up y.x.size; omega) (by omega) m hm
    refine ⟨?_, by omega⟩
    rw [hlen] at g1
    rw [← g1]
    exact get_as (by rw [set_part]; exact pp 1 (by simp)) (by rw [set_part]; exact pp 0 (by simp))
  · rw [if_neg he] at hp'
    obtain ⟨-, rfl, -⟩ := hp'
    rcases map_err3 h.ok (n := y.x.size) z1 (by omega) with h3 | h3
    · exact absurd h3 he
    · exact ⟨.inr h3, fun hh => absurd hh he⟩
theorem reg_err {t : Ts} {tm : List UInt8} {size : Int} {st : Bool} {n r : Int} {t' : Ts} (hp : RegP t tm size st n r t') (hr : r ≠ 0) : n = 0 := by
  unfold RegP at hp
  split at hp
  · exact hp.1
  split at hp
  · exact hp.1
  obtain ⟨m, hm, hp⟩ := hp
  split at hp
  · exact hp.1
  split at hp
  · exact hp.1
  exact absurd hp.2.1 hr
theorem reg_ok {t : Ts} {L : List Rg} (h : SInv t L) {tm : List UInt8} {size : Int} {n : Int} {t' : Ts} (hp : RegP t tm size false n 0 t') : ∃ y, efind MdE.k t'.ml n = some y ∧ y.x.st = false ∧ y.x.size = size ∧ y.x.tm = tm ∧ 1 ≤ size ∧ size ≤ 4096 ∧ (tm.length : Int) ≤ size ∧ FreeN t.ml n ∧ n ≤ 64 ∧ efind MdE.k t.ml n = none ∧ ∃ v, t' = regT t n tm size false v := by
  unfold RegP at hp
  split at hp
  · exact absurd hp.2.1 (by decide)
  rename_i hb
  split at hp
  · exact absurd hp.2.1 (by decide)
  obtain ⟨m, hm, hp⟩ := hp
  split at hp
  · exact absurd hp.2.1 (by decide)
  rename_i h64
  split at hp
  · exact absurd hp.2.1 (by decide)
  obtain ⟨rfl, -, v, rfl⟩ := hp
  have hfn := mszS_none h.inv.key hm.2.2.2
  refine ⟨newM t n tm size false v, ?_, rfl, rfl, rfl, by omega, by omega, by omega, hm, by omega, hfn, v, rfl⟩
  show efind MdE.k (t.ml ++ [_]) n = _
  rw [efind_app_none hfn]
  unfold efind
  rw [if_pos (show n = (newM t n tm size false v).k from rfl)]
end Go.Proofs.Ytpenejigebkkmaa
