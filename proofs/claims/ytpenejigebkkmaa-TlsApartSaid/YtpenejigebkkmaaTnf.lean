/-
  TlsApart: the walk.
  Conditions: none. (My own text.)
-/
import Derived.Test.YtpenejigebkkmaaTnd
import Derived.Deep.RegionWith
namespace Go.Proofs.Ytpenejigebkkmaa
open Go.RowKit Spm
set_option linter.unusedVariables false
set_option linter.unusedSimpArgs false
attribute [local irreducible] wpList

theorem below_drewT {B : Nat} {w : World} : Below B w w.drew := ⟨rfl, rfl, rfl, Nat.le_refl _, fun _ _ => rfl⟩
theorem bk_one (l : List Bk) : ∀ u ∈ l.flatMap bkC, u.oneCell' = true := by
  intro u hu
  obtain ⟨r, _, hr⟩ := List.mem_flatMap.1 hu
  simp only [bkC, List.mem_cons, List.not_mem_nil, or_false] at hr
  rcases hr with rfl | rfl | rfl | rfl <;> rfl
theorem bk_len (l : List Bk) : (l.flatMap bkC).length = l.length * 4 := by
  induction l with
  | nil => rfl
  | cons x l ih => rw [List.flatMap_cons, List.length_append, ih, List.length_cons]; simp [bkC]; omega
theorem run_append_bks {w : World} {v vb : Value} {la lb : List Bk} (ha : w.ownsRow 0 44 4 v la.length (la.flatMap bkC)) (hb : w.ownsRow 0 44 4 vb lb.length (lb.flatMap bkC)) (hl : la.length + lb.length ≤ 1000000) (ty : TypeId) :
    ∃ v' w', (Builtin.append_ #[41, 41] ty #[v, vb]).run Try.prog w = .ok v' w' ∧ w'.ownsRow 0 44 4 v' (la ++ lb).length ((la ++ lb).flatMap bkC) ∧ w.grownBy w' v.ownBlock ∧ ((v'.ownBlock = v.ownBlock) ∨ v'.ownBlock = some w.heap.size) := by
  obtain ⟨i0, hi, hz0, hz1, hz2⟩ := info_parts blk_info
  by_cases hn : lb = []
  · subst hn
    obtain ⟨A, c, hvb⟩ : ∃ A c, vb = .slice A 0 c := by
      rcases hb.2 with ⟨hv, -⟩ | ⟨g, cap, cur, hv, -⟩
      · exact ⟨_, _, hv⟩
      · exact ⟨_, _, hv⟩
    subst hvb
    refine ⟨v, w, ?_, by simpa using ha, World.grownBy.refl w _, .inl rfl⟩
    rcases ha.2 with ⟨hv, hn⟩ | ⟨g, cap, cur, hv, _, hg, hnc, hcm, _⟩
    · subst hv
      cases A <;> simp [Builtin.append_, run_underlying Try.underlying41, sizeOf, typeInfo, hi, Builtin.lenOf, Builtin.firstCells, storeCells, loadCells, loadCellsFrom]
    · subst hv
      unfold maxLen at hcm
      have h1 : la.length ≤ 9223372036854775807 := by omega
      cases A <;> simp [Builtin.append_, run_underlying Try.underlying41, sizeOf, typeInfo, hi, Builtin.lenOf, Builtin.firstCells, storeCells, loadCells, loadCellsFrom, hnc, h1]
  · rcases hb.2 with ⟨hv, h0⟩ | ⟨g, cap, cur, hv, h1, h2⟩
    · exact absurd (List.eq_nil_of_length_eq_zero h0) hn
    · have hcell := hb.cells (g := g) (by rw [hv]; rfl)
      subst hv
      have hpos : 0 < lb.length := by cases lb with | nil => exact absurd rfl hn | cons x l => simp
      obtain ⟨v', w', hr, ho, hg, hloc⟩ := append_own2 Try.prog w 41 ty 44 i0 _ 4 32 Try.underlying41 hi hz0 hz1 hz2 rfl (by decide) v la.length (la.flatMap bkC) ha ⟨g, 0, none⟩ lb.length cap (lb.flatMap bkC) hpos (bk_len lb) hcell (bk_one lb) (by unfold maxLen; omega) (by omega)
      refine ⟨v', w', hr, by rw [List.length_append, List.flatMap_append]; exact ho, hg, ?_⟩
      rcases hloc with ⟨g', e1, e2⟩ | h
      · exact .inl (e2.trans e1.symm)
      · exact .inr h
theorem Has.appended {B : Nat} {w wr w' : World} {Y : Res} [hY : Fr Y] {v v' : Value} {l l' : List Bk} (h : Has B w wr (Star (Bks v l) Y)) (ho : w'.ownsRow 0 44 4 v' l'.length (l'.flatMap bkC)) (hg : wr.grownBy w' v.ownBlock) (hn : v'.ownBlock = v.ownBlock ∨ v'.ownBlock = some wr.heap.size) : Has B w w' (Star (Bks v' l') Y) := by
  obtain ⟨F, ⟨F1, F2, h1, h2, hd, g1, g2⟩, h3⟩ := h.own
  have x2 := Keeps.of_grown hg
  refine ⟨⟨fun k => F k ∨ wr.heap.size ≤ k, ⟨fun k => F1 k ∨ wr.heap.size ≤ k, fun k => F2 k ∧ k < wr.heap.size, ⟨ho, fun g e => ?_⟩, hY.keep (hY.mono h2 (fun k hk hl => ⟨hk, hl⟩)) (fun k hk hl => x2.block k hl (fun a => hd k (h1.2 k a) hk.1)), fun k a b => ?_, fun k a => ?_, fun k a => .inl (g2 k a.1)⟩, fun k hk => ?_⟩, h.bel.trans (x2.below h.le (fun k hk => h3 k (g1 k (h1.2 k hk)))), Nat.le_trans h.le x2.size⟩
  · rcases hn with hn | hn
    · exact .inl (h1.2 g (by rw [← hn]; exact e))
    · rw [hn] at e
      cases e
      exact .inr (Nat.le_refl _)
  · rcases a with a | a
    · exact hd k a b.1
    · omega
  · rcases a with a | a
    · exact .inl (g1 k a)
    · exact .inr a
  · rcases hk with hk | hk
    · exact h3 k hk
    · exact Nat.le_trans h.le hk
theorem Has.bksOwn0 {B : Nat} {w wr : World} {X : Res} {v : Value} {l : List Bk} (h : Has B w wr (Star (Bks v l) X)) : wr.ownsRow 0 44 4 v l.length (l.flatMap bkC) := by
  obtain ⟨F, ⟨F1, F2, h1, h2⟩, h3⟩ := h.own
  exact h1.1
theorem allS_len {t : Ts} {L : List Rg} (h : SInv t L) : ∀ k : Nat, (allS t k).length ≤ k * 64
  | 0 => Nat.zero_le _
  | k + 1 => by
    have h1 := allS_len h k
    have h2 := blks_len h (k : Int)
    rw [allS_snoc, List.length_append]
    omega
theorem allS_peek {t : Ts} {L : List Rg} (h : SInv t L) {k : Nat} {b : Bk} (hb : b ∈ allS t k) : (getS L b.at_ b.sz 0).2 = 0 ∧ 4096 ≤ b.at_ ∧ 1 ≤ b.sz ∧ b.sz ≤ 4096 ∧ b.at_ + b.sz ≤ 4294967296 := by
  unfold allS at hb
  obtain ⟨i, -, hb⟩ := List.mem_flatMap.1 hb
  exact blk_peek h hb
set_option maxRecDepth 100000 in
set_option maxHeartbeats 8000000 in
theorem tapart_walk (v : Value) (l : List TActM) (w : World) (hv : TActsV w w.heap.size v l) :
    Calls Try.prog 6 #[v] w fun e w' => e = .returned (.bool true) ∧ Below w.heap.size w w' := by
  have M0 := Lib.hid (Has.start (Below.refl w.heap.size w) (Nat.le_refl _))
  have HV := Lib.hid hv
  clear hv
  go_enter Try.func6, Try.ntmps6
  go_wp2_with fail
  refine (tawake_any M0.out).mono ?_
  rintro e w1 ⟨rfl, m⟩
  have C1 := Lib.hid (tplayed_any m v l HV.out)
  clear m M0
  go_wp2_with fail
  refine (C1.out).mono ?_
  rintro e w2 ⟨s, g, t, L, rfl, hp, m⟩
  have HS := Lib.hid hp.sinv
  have M2 : Hid (Has w.heap.size w w2 (Star (Bks (.slice none 0 0) (allS t 0)) (Tl s t (Star (Sp g L) Emp)))) := Lib.hid (m.add (Below.refl _ _) ⟨World.ownsRow_nil _ _ _ _, fun g hg => by cases hg⟩)
  clear hp m C1 HV
  go_wp2_with fail
  go_loopw [6, 7] (fun va i wr => ∃ k : Nat, k ≤ 16 ∧ i = .int .i64 k ∧ Hid (Has w.heap.size w wr (Star (Bks va (allS t k)) (Tl s t (Star (Sp g L) Emp))))) (fun _ i _ => 16 - (intOf i).toNat)
  case atStart => exact ⟨0, Nat.zero_le _, rfl, M2⟩
  case round =>
    clear M2
    obtain ⟨k, hk, rfl, hM⟩ := hrel
    by_cases hlt : k < 16
    · have C3 := Lib.hid (tblocks_any (hM.out.norm (Tl s t (Star (Sp g L) (Star (Bks u6 (allS t k)) Emp)))) HS.out.inv.good HS.out.num (k : Int))
      clear hM
      go_wp2_with fail
      refine (C3.out).mono ?_
      rintro e w4 ⟨vb, rfl, m⟩
      have hb2 := blks_len HS.out (k : Int)
      have hb1 := allS_len HS.out k
      have ma := m.norm (Star (Bks u6 (allS t k)) (Star (Bks vb (blksS t (k : Int))) (Tl s t (Star (Sp g L) Emp))))
      obtain ⟨v', w5, hr, ho, hg, hloc⟩ := run_append_bks ma.bksOwn0 m.bksOwn0 (by omega) 41
      have HR := Lib.hid hr
      have M5 : Hid (Has w.heap.size w w5 (Star (Bks v' (allS t (k + 1))) (Tl s t (Star (Sp g L) Emp)))) := Lib.hid (by
        have h9 := ma.appended ho hg hloc
        rw [← allS_snoc] at h9
        exact h9.norm (Star (Bks v' (allS t (k + 1))) (Tl s t (Star (Sp g L) Emp))))
      clear m ma hr ho hg hloc hb1 hb2 C3
      go_wp2_with (at_builtin; refine Lib.wpList_append_run _ rfl _ _ _ _ rfl _ _ rfl rfl _ _ HR.out ?_)
      go_roundw
      case rel => exact ⟨k + 1, by omega, by go_num, M5⟩
      case measure => simp [intOf]; omega
    · obtain rfl : k = 16 := by omega
      have hb1 := allS_len HS.out 16
      have HP : Hid (∀ b ∈ allS t 16, (getS L b.at_ b.sz 0).2 = 0 ∧ 4096 ≤ b.at_ ∧ 1 ≤ b.sz ∧ b.sz ≤ 4096 ∧ b.at_ + b.sz ≤ 4294967296) := Lib.hid (fun b hb => allS_peek HS.out hb)
      have HD := Lib.hid (allS_apart HS.out 16)
      generalize allS t 16 = lb at hM HP HD hb1
      obtain ⟨bA, bc, hva, hbc, -⟩ := hM.out.bksv
      subst hva
      go_wp2_with fail
      go_loopw [8] (fun i wr => ∃ k : Nat, k ≤ lb.length ∧ i = .int .i64 k ∧ Hid (Has w.heap.size w wr (Star (Bks (.slice bA lb.length bc) lb) (Tl s t (Star (Sp g L) Emp))))) (fun i _ => lb.length - (intOf i).toNat)
      case atStart => exact ⟨0, Nat.zero_le _, rfl, hM⟩
      case round =>
        obtain ⟨j, hj, rfl, hM2⟩ := hrel
        by_cases hlt2 : j < lb.length
        · obtain ⟨b, hbj⟩ : ∃ b, lb[j]? = some b := ⟨lb[j], List.getElem?_eq_getElem hlt2⟩
          obtain ⟨bA2, bc2, hbv, -, hcell⟩ := hM2.out.bksv
          cases hbv
          obtain ⟨bg, rfl, hcj⟩ := hcell j b hbj
          have c2 : wr.cell? ⟨bg, j * 4 + 2, none⟩ = some (.int .i64 b.at_) := hcj 2 _ rfl
          have c3 : wr.cell? ⟨bg, j * 4 + 3, none⟩ = some (.int .i64 b.sz) := hcj 3 _ rfl
          obtain ⟨pk, p1, p2, p3, p4⟩ := HP.out b (List.mem_of_getElem? hbj)
          have MD := Lib.hid (hM2.out.stay below_drewT)
          have C4 := Lib.hid (own_peek (MD.out.pick (Sp g L)) b.at_ (by omega) b.sz)
          rw [pk] at C4
          have HBJ := Lib.hid hbj
          clear hcell hcj hM2 hM MD pk hbj
          have i0 : (0 : Int) ≤ (j : Int) := by omega
          have i1 : (j : Int) < (lb.length : Int) := by omega
          go_wp2_with fail
          go_region_with (go_at_call 19; refine (C4.out).mono ?_; rintro e w5 ⟨v5, rfl, m5⟩)
          all_goals
            have M5 := Lib.hid (m5.norm (Star (Bks (.slice (some ⟨bg, 0, none⟩) lb.length bc) lb) (Tl s t (Star (Sp g L) Emp))))
            clear m5 C4 c2 c3
            go_wp2_with fail
            obtain ⟨wo, hwo⟩ : ∃ wo, wo = w5 := ⟨_, rfl⟩
            rw [← hwo] at M5 ⊢
            clear hwo
            go_loopw [11] (fun i wr => ∃ k : Nat, k ≤ j ∧ i = .int .i64 k ∧ Hid (Has w.heap.size w wr (Star (Bks (.slice (some ⟨bg, 0, none⟩) lb.length bc) lb) (Tl s t (Star (Sp g L) Emp))))) (fun i _ => j - (intOf i).toNat)
            case atStart => exact ⟨0, Nat.zero_le _, rfl, M5⟩
            case round =>
              clear M5
              obtain ⟨k, hk, rfl, hM3⟩ := hrel
              by_cases hlt3 : k < j
              · obtain ⟨a, hak⟩ : ∃ a, lb[k]? = some a := ⟨lb[k], List.getElem?_eq_getElem (by omega)⟩
                obtain ⟨bA3, bc3, hbv, -, hcell⟩ := hM3.out.bksv
                cases hbv
                obtain ⟨bg3, hbg3, hca⟩ := hcell k a hak
                cases hbg3
                obtain ⟨bg4, hbg4, hcb⟩ := hcell j b HBJ.out
                cases hbg4
                have c2 : wr.cell? ⟨bg, j * 4 + 2, none⟩ = some (.int .i64 b.at_) := hcb 2 _ rfl
                have c3 : wr.cell? ⟨bg, j * 4 + 3, none⟩ = some (.int .i64 b.sz) := hcb 3 _ rfl
                have d2 : wr.cell? ⟨bg, k * 4 + 2, none⟩ = some (.int .i64 a.at_) := hca 2 _ rfl
                have d3 : wr.cell? ⟨bg, k * 4 + 3, none⟩ = some (.int .i64 a.sz) := hca 3 _ rfl
                obtain ⟨-, q1, q2, q3, q4⟩ := HP.out a (List.mem_of_getElem? hak)
                have hdj : a.at_ + a.sz ≤ b.at_ ∨ b.at_ + b.sz ≤ a.at_ := pw_get HD.out hak HBJ.out hlt3
                have k0 : (0 : Int) ≤ (k : Int) := by omega
                have k1 : (k : Int) < (lb.length : Int) := by omega
                have kj : (k : Int) < (j : Int) := by omega
                have wa : IntKind.i64.wrap (a.at_ + a.sz) = a.at_ + a.sz := by rw [IntKind.wrap_i64]; omega
                have wb : IntKind.i64.wrap (b.at_ + b.sz) = b.at_ + b.sz := by rw [IntKind.wrap_i64]; omega
                clear hcell hca hcb hak
                have M6 := Lib.hid (fun nq => hM3.out.stay (below_drewN (Below.refl _ _) nq))
                by_cases h1 : b.at_ < a.at_ + a.sz
                · have h1d : decide (b.at_ < a.at_ + a.sz) = true := decide_eq_true h1
                  have h2 : ¬ a.at_ < b.at_ + b.sz := by omega
                  have h2d : decide (a.at_ < b.at_ + b.sz) = false := decide_eq_false h2
                  clear hM3 hdj
                  go_upto_region 19 with fail
                  go_quiet (fail)
                  have M7 := Lib.hid (M6.out nq)
                  go_wp2_with fail
                  first
                    | (go_roundw
                       case rel => exact ⟨k + 1, by omega, by go_num, M7⟩
                       case measure => simp [intOf]; omega)
                    | (refine ⟨?_, ?_⟩
                       · (repeat apply Exists.intro)
                         refine ⟨?_, rfl⟩
                         exact ⟨k + 1, by omega, by go_num, M7⟩
                       · simp [intOf]; omega)
                · have h1d : decide (b.at_ < a.at_ + a.sz) = false := decide_eq_false h1
                  clear hM3 hdj
                  go_upto_region 19 with fail
                  go_quiet (fail)
                  have M7 := Lib.hid (M6.out nq)
                  go_wp2_with fail
                  first
                    | (go_roundw
                       case rel => exact ⟨k + 1, by omega, by go_num, M7⟩
                       case measure => simp [intOf]; omega)
                    | (refine ⟨?_, ?_⟩
                       · (repeat apply Exists.intro)
                         refine ⟨?_, rfl⟩
                         exact ⟨k + 1, by omega, by go_num, M7⟩
                       · simp [intOf]; omega)
              · go_wp2
                first
                  | (go_roundw
                     case rel => exact ⟨j + 1, by omega, by go_num, hM3⟩
                     case measure => simp [intOf]; omega)
                  | (refine ⟨?_, ?_⟩
                     · (repeat apply Exists.intro)
                       refine ⟨?_, rfl⟩
                       exact ⟨j + 1, by omega, by go_num, hM3⟩
                     · simp [intOf]; omega)
        · go_wp2
          go_ret
          exact ⟨rfl, hM2.out.bel⟩
end Go.Proofs.Ytpenejigebkkmaa
