/-
  TlsGone: the walk; tls.Static.
  Conditions: none. (My own text.)
-/
import Derived.Test.YtpenejigebkkmaaTnd
namespace Go.Proofs.Ytpenejigebkkmaa
open Go.RowKit Spm
set_option linter.unusedVariables false
set_option linter.unusedSimpArgs false
attribute [local irreducible] wpList

def bhS (t : Ts) (n : Int) : Int := match efind MdE.k t.ml n with | none => 0 | some m => m.x.bh
set_option maxRecDepth 100000 in
set_option maxHeartbeats 4000000 in
theorem tstatic_any {B : Nat} {w wr : World} {Y : Res} [hY : Fr Y] {s : Nat} {t : Ts} (h : Has B w wr (Tl s t Y)) (n : Int) : Calls Try.prog 21 #[.pointer (some ⟨s, 0, none⟩), .int .i64 n] wr fun e w' => e = .returned (.tuple #[.int .i64 (bhS t n), .bool (stS t n)]) ∧ Has B w w' (Tl s t Y) := by
  have M0 := Lib.hid h
  have s0 : wr.cell? ⟨s, 0, none⟩ = some (.map (some t.gm)) := M0.out.cellat s 0 rfl
  have hmg := mget_efind (ent := MdE.ent) (key := MdE.k) (fun _ => rfl) n t.ml
  obtain ⟨X, vv, hv, hvv, hst, hbh⟩ : ∃ (X : Mdl) (vv : Value), (mget (t.ml.map MdE.ent) n).getD (.agg #[.int .i64 0, .int .i64 0, .slice none 0 0, .bool false, .int .i64 0]) = .agg (mdA X vv) ∧ (∃ A n c, vv = .slice A n c) ∧ X.st = stS t n ∧ X.bh = bhS t n := by
    unfold stS bhS
    rw [hmg]
    cases hf : efind MdE.k t.ml n with
    | none => exact ⟨⟨0, 0, [], false, 0⟩, .slice none 0 0, rfl, ⟨_, _, _, rfl⟩, rfl, rfl⟩
    | some m =>
      obtain ⟨m1, m2, hml, -⟩ := efind_split hf
      obtain ⟨yA, yc, hyv, -, -⟩ := (Tl.tmpl h hml).src
      exact ⟨m.x, m.v, rfl, ⟨_, _, _, hyv⟩, rfl, rfl⟩
  obtain ⟨A, n0, c, hvv⟩ := hvv
  have HVV := Lib.hid hvv
  have Na := Lib.hid (M0.out.newcel 68 #[.int .i64 0, .int .i64 0, .slice none 0 0, .bool false, .int .i64 0])
  have Nb := Lib.hid (Na.out.rowc wr.heap.size (mdA X vv))
  rw [← hst, ← hbh]
  clear h hmg hvv hst hbh
  go_enter Try.func21, Try.ntmps21
  go_upto_region 2 with (first | (refine wpList_mlookV rfl 62 3 68 _ _ rfl Try.underlying62 Try.underlying3 t.gm _ _ rfl n rfl (M0.out.getm t.gm) (.agg #[.int .i64 0, .int .i64 0, .slice none 0 0, .bool false, .int .i64 0]) z_mod (.agg (mdA X vv)) hv ?_) | (refine wpList_store_row rfl 68 _ _ rfl wr.heap.size (mdA X vv) rfl rfl 68 #[.int .i64 0, .int .i64 0, .slice none 0 0, .bool false, .int .i64 0] (Na.out.getc wr.heap.size) (by kernel_rfl) rfl (mdA_one HVV.out) ?_))
  obtain ⟨W1, hW⟩ : ∃ W1, (wr.alloc (.cells #[.int .i64 0, .int .i64 0, .slice none 0 0, .bool false, .int .i64 0] 68)).setRow wr.heap.size (mdA X vv) = W1 := ⟨_, rfl⟩
  rw [hW] at Nb ⊢
  have z3 : W1.cell? ⟨wr.heap.size, 3, none⟩ = some (.bool X.st) := Nb.out.cellat wr.heap.size 3 rfl
  have z4 : W1.cell? ⟨wr.heap.size, 4, none⟩ = some (.int .i64 X.bh) := Nb.out.cellat wr.heap.size 4 rfl
  have NZ := Lib.hid (Nb.out.norm (Tl s t Y))
  clear hW Na Nb M0 s0 hv
  generalize wr.heap.size = x6 at z3 z4 ⊢
  go_quiet (fail)
  have NW := Lib.hid (NZ.out.stay (below_drewN (Below.refl _ _) nq))
  go_wp2_with fail
  go_ret2
  exact ⟨rfl, NW.out⟩

theorem alone_snoc (t : Ts) (l : List Bk) (k : Nat) (b : Bk) (h : l[k]? = some b) : aloneS t (l.take (k + 1)) = aloneS t (l.take k) + if stS t b.md = true then 0 else 1 := by
  unfold aloneS
  rw [List.take_add_one, h, List.filter_append, List.length_append]
  cases hs : stS t b.md <;> simp [hs]
theorem alone_le (t : Ts) (l : List Bk) : aloneS t l ≤ l.length := by
  unfold aloneS
  exact List.length_filter_le _ _
set_option maxRecDepth 100000 in
set_option maxHeartbeats 8000000 in
theorem tgone_walk (v : Value) (l : List TActM) (id : Int) (i0 : 0 ≤ id) (i1 : id ≤ 255) (w : World) (hv : TActsV w w.heap.size v l) :
    Calls Try.prog 7 #[v, .int .u8 id] w fun e w' => e = .returned (.bool true) ∧ Below w.heap.size w w' := by
  have M0 := Lib.hid (Has.start (Below.refl w.heap.size w) (Nat.le_refl _))
  have HV := Lib.hid hv
  clear hv
  obtain ⟨x, hx⟩ : ∃ x, x = id % 16 := ⟨_, rfl⟩
  have tx : id.tmod 16 = x := by rw [Int.tmod_eq_emod_of_nonneg i0]; exact hx.symm
  have wx1 : IntKind.u8.wrap x = x := by rw [hx]; simp [IntKind.wrap, IntKind.signed, IntKind.bits]; omega
  have wx2 : IntKind.i64.wrap x = x := by rw [hx, IntKind.wrap_i64]; omega
  clear hx
  go_enter Try.func7, Try.ntmps7
  go_wp2_with fail
  refine (tawake_any M0.out).mono ?_
  rintro e w1 ⟨rfl, m⟩
  have C1 := Lib.hid (tplayed_any m v l HV.out)
  clear m M0
  go_wp2_with fail
  refine (C1.out).mono ?_
  rintro e w2 ⟨s, g, t, L, rfl, hp, m⟩
  have HS := Lib.hid hp.sinv
  have C2 := Lib.hid (own_regions (m.pick (Sp g L)))
  clear hp m C1 HV
  go_wp2_with fail
  refine (C2.out).mono ?_
  rintro e w3 ⟨rv, rfl, m⟩
  have C3 := Lib.hid (tblocks_any (m.norm (Tl s t (Star (Sp g L) (Star (Rs rv L) Emp)))) HS.out.inv.good HS.out.num x)
  clear m C2
  go_wp2_with fail
  refine (C3.out).mono ?_
  rintro e w4 ⟨vb, rfl, m⟩
  obtain ⟨bA, bc, rfl, hbc, -⟩ := m.bksv
  have M4 := Lib.hid m
  have hb64 := blks_len HS.out x
  obtain ⟨lb, hlb⟩ : ∃ lb, lb = blksS t x := ⟨_, rfl⟩
  rw [← hlb] at M4 hb64 ⊢
  have HLB := Lib.hid hlb
  clear m C3 hlb
  go_wp2_with fail
  go_loopw [11, 12] (fun al i wr => ∃ k : Nat, k ≤ lb.length ∧ i = .int .i64 k ∧ al = .int .i64 (aloneS t (lb.take k)) ∧ Hid (Has w.heap.size w wr (Star (Bks (.slice bA lb.length bc) lb) (Tl s t (Star (Sp g L) (Star (Rs rv L) Emp)))))) (fun _ i _ => lb.length - (intOf i).toNat)
  case atStart => exact ⟨0, Nat.zero_le _, rfl, rfl, M4⟩
  case round =>
    obtain ⟨j, hj, rfl, rfl, hM⟩ := hrel
    by_cases hlt : j < lb.length
    · obtain ⟨b, hbj⟩ : ∃ b, lb[j]? = some b := ⟨lb[j], List.getElem?_eq_getElem hlt⟩
      obtain ⟨bA2, bc2, hbv, -, hcell⟩ := hM.out.bksv
      cases hbv
      obtain ⟨bg, rfl, hcj⟩ := hcell j b hbj
      have c0 : wr.cell? ⟨bg, j * 4, none⟩ = some (.int .i64 b.md) := hcj 0 _ rfl
      have HAL := Lib.hid (alone_snoc t lb j b hbj)
      have hale := alone_le t (lb.take j)
      rw [List.length_take] at hale
      have C5 := Lib.hid (tstatic_any (hM.out.norm (Tl s t (Star (Sp g L) (Star (Rs rv L) (Star (Bks (.slice (some ⟨bg, 0, none⟩) lb.length bc) lb) Emp))))) b.md)
      generalize aloneS t (lb.take j) = al at HAL hale ⊢
      clear hcell hcj hbj hM M4
      go_wp2_with fail
      refine (C5.out).mono ?_
      rintro e w5 ⟨rfl, m⟩
      have M5 := Lib.hid (m.norm (Star (Bks (.slice (some ⟨bg, 0, none⟩) lb.length bc) lb) (Tl s t (Star (Sp g L) (Star (Rs rv L) Emp)))))
      clear m C5
      cases hst : stS t b.md with
      | true =>
        rw [hst] at HAL
        go_wp2
        go_roundw
        case rel => exact ⟨j + 1, by omega, by go_num, by rw [HAL.out]; rfl, M5⟩
        case measure => simp [intOf]; omega
      | false =>
        rw [hst] at HAL
        go_wp2
        go_roundw
        case rel => exact ⟨j + 1, by omega, by go_num, by rw [HAL.out]; go_num, M5⟩
        case measure => simp [intOf]; omega
    · have HAL : Hid (aloneS t (lb.take j) = aloneS t (blksS t x)) := Lib.hid (by rw [List.take_of_length_le (by omega), HLB.out])
      rw [HAL.out]
      have HALE := Lib.hid (alone_le t (blksS t x))
      have C6 := Lib.hid (texit_any (hM.out.norm (Tl s t (Star (Sp g L) (Star (Rs rv L) (Star (Bks (.slice bA lb.length bc) lb) Emp))))) HS.out.inv.good x)
      clear hM M4
      go_wp2_with fail
      refine (C6.out).mono ?_
      intro e w6 hE
      obtain ⟨r1, t1, L1, hP, rfl, m⟩ := ExitE.plain hE
      have HGR := Lib.hid (gone_plain HS.out hP)
      have HS1 := Lib.hid (HS.out.exit hP)
      clear hE hP C6
      by_cases hr : r1 = 0
      rotate_left
      · obtain ⟨rfl, hb0, rfl⟩ := HGR.out.bad hr
        obtain rfl : lb = [] := by rw [HLB.out]; exact hb0
        have C7 := Lib.hid (own_regions (m.pick (Sp g L1)))
        clear m HGR hr
        go_wp2_with fail
        refine (C7.out).mono ?_
        rintro e w7 ⟨rv2, rfl, m⟩
        have C8 := Lib.hid (same_any (m.pick (Rs rv L1)).rs (m.pick (Rs rv2 L1)).rs rfl)
        have HZ := Lib.hid m
        clear m C7
        go_wp2_with fail
        refine (C8.out).mono ?_
        rintro e w8 ⟨rfl, hb8⟩
        have HZ8 := Lib.hid (HZ.out.stay hb8).bel
        clear hb8 C8 HZ
        go_wp2
        go_ret
        exact ⟨rfl, HZ8.out⟩
      subst hr
      have HFREE := Lib.hid (HGR.out.free rfl)
      have HLEN := Lib.hid (HGR.out.len rfl)
      have HNONE := Lib.hid (HGR.out.none rfl)
      rw [← HLB.out] at HFREE HLEN HALE
      rw [← HLB.out]
      have HBA : Hid (∀ b ∈ lb, b.at_ ≤ 9223372036854775807) := Lib.hid (fun b hb => by
        have := blk_peek HS.out (id := x) (b := b) (by rw [← HLB.out]; exact hb)
        omega)
      have M6 := Lib.hid (m.norm (Star (Bks (.slice bA lb.length bc) lb) (Tl s t1 (Star (Sp g L1) (Star (Rs rv L) Emp)))))
      clear m HGR HAL
      go_wp2_with fail
      go_loopw [16] (fun i wr => ∃ k : Nat, k ≤ lb.length ∧ i = .int .i64 k ∧ Hid (Has w.heap.size w wr (Star (Bks (.slice bA lb.length bc) lb) (Tl s t1 (Star (Sp g L1) (Star (Rs rv L) Emp)))))) (fun i _ => lb.length - (intOf i).toNat)
      case atStart => exact ⟨0, Nat.zero_le _, rfl, M6⟩
      case round =>
        obtain ⟨j2, hj2, rfl, hM⟩ := hrel
        by_cases hlt2 : j2 < lb.length
        · obtain ⟨b, hbj⟩ : ∃ b, lb[j2]? = some b := ⟨lb[j2], List.getElem?_eq_getElem hlt2⟩
          obtain ⟨bA2, bc2, hbv, -, hcell⟩ := hM.out.bksv
          cases hbv
          obtain ⟨bg, rfl, hcj⟩ := hcell j2 b hbj
          have c0 : wr.cell? ⟨bg, j2 * 4 + 2, none⟩ = some (.int .i64 b.at_) := hcj 2 _ rfl
          have C7 := Lib.hid (own_peek (hM.out.pick (Sp g L1)) b.at_ (HBA.out b (List.mem_of_getElem? hbj)) 1)
          rw [HFREE.out b (List.mem_of_getElem? hbj)] at C7
          clear hcell hcj hbj hM M6
          go_wp2_with fail
          refine (C7.out).mono ?_
          rintro e w7 ⟨v7, rfl, m⟩
          have M7 := Lib.hid (m.norm (Star (Bks (.slice (some ⟨bg, 0, none⟩) lb.length bc) lb) (Tl s t1 (Star (Sp g L1) (Star (Rs rv L) Emp)))))
          clear m C7
          go_wp2
          go_roundw
          case rel => exact ⟨j2 + 1, by omega, by go_num, M7⟩
          case measure => simp [intOf]; omega
        · have C7 := Lib.hid (own_regions (hM.out.pick (Sp g L1)))
          clear M6 hM
          go_wp2_with fail
          refine (C7.out).mono ?_
          rintro e w7 ⟨rv2, rfl, m⟩
          obtain ⟨rA, rc, hrv, -⟩ := (m.pick (Rs rv L)).rs.at_
          obtain ⟨rA2, rc2, hrv2, -⟩ := (m.pick (Rs rv2 L1)).rs.at_
          have C8 := Lib.hid (tblocks_any (m.norm (Tl s t1 Emp)) HS1.out.inv.good HS1.out.num x)
          subst hrv hrv2
          have hLl := HS.out.ok.len
          have hlen := HLEN.out
          have hale := HALE.out
          generalize aloneS t lb = al at hlen hale ⊢
          have w3 : (L1.length : Int) = (L.length : Int) - (al : Int) - 1 := by omega
          clear m C7 HFREE HLEN HALE hlen
          go_wp2_with fail
          refine (C8.out).mono ?_
          rintro e w8 ⟨vb2, rfl, m⟩
          rw [HNONE.out] at m
          obtain ⟨bA3, bc3, rfl, -, -⟩ := m.bksv
          have HZ := Lib.hid m.bel
          clear m C8
          go_wp2
          go_ret
          exact ⟨rfl, HZ.out⟩
end Go.Proofs.Ytpenejigebkkmaa
