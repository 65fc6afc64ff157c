/-
  TlsNumbers: the walk; tls.Static.
  Conditions: none. (My own text.)
-/
import Derived.Test.YtpenejigebkkmaaTmy
import Derived.Test.YtpenejigebkkmaaTnb
import Derived.Test.YtpenejigebkkmaaTnc
namespace Go.Proofs.Ytpenejigebkkmaa
open Go.RowKit Spm
set_option linter.unusedVariables false
set_option linter.unusedSimpArgs false
attribute [local irreducible] wpList

theorem Bks.src {w : World} {F : Nat → Prop} {v : Value} {l : List Bk} (h : Bks v l w F) : ∃ A c, v = .slice A l.length c ∧ c ≤ maxLen ∧ ∀ k b, l[k]? = some b → ∃ g, A = some ⟨g, 0, none⟩ ∧ ∀ j u, (bkC b)[j]? = some u → w.cell? ⟨g, k * 4 + j, none⟩ = some u := by
  obtain ⟨h, -⟩ := h
  rcases h.2 with ⟨hv, hn⟩ | ⟨g, cap, cur, hv, hb, hg, hl, hm, hs, ht⟩
  · exact ⟨none, 0, by rw [hv, hn], Nat.zero_le _, fun k x hx => by
      rw [List.eq_nil_of_length_eq_zero hn] at hx
      simp at hx⟩
  · refine ⟨some ⟨g, 0, none⟩, cap, hv, hm, fun k x hk => ⟨g, rfl, fun j u hu => ?_⟩⟩
    have h9 := h.cells (g := g) (by rw [hv]; rfl) (k * 4 + j) u (flat_get (cells := bkC) (fun _ => rfl) l k x hk j u hu)
    rwa [Addr.add_lit, Nat.zero_add] at h9
theorem Has.bksv {B : Nat} {w wr : World} {X : Res} {v : Value} {l : List Bk} (h : Has B w wr (Star (Bks v l) X)) : ∃ A c, v = .slice A l.length c ∧ c ≤ maxLen ∧ ∀ k b, l[k]? = some b → ∃ g, A = some ⟨g, 0, none⟩ ∧ ∀ j u, (bkC b)[j]? = some u → wr.cell? ⟨g, k * 4 + j, none⟩ = some u := by
  obtain ⟨F, ⟨F1, F2, h1, h2⟩, h3⟩ := h.own
  exact h1.src
set_option maxRecDepth 100000 in
set_option maxHeartbeats 4000000 in
theorem tnum_walk (v : Value) (l : List TActM) (A : Option Addr) (c : Nat) (tm : List UInt8) (htl : tm.length ≤ maxLen) (size n id : Int) (i0 : 0 ≤ id) (i1 : id ≤ 255) (w : World) (hv : TActsV w w.heap.size v l) (hb : BytesAt w w.heap.size A tm) :
    Calls Try.prog 5 #[v, .slice A tm.length c, .int .i64 size, .int .i64 n, .int .u8 id] w fun e w' => e = .returned (.bool true) ∧ Below w.heap.size w w' := by
  have M0 := Lib.hid (Has.start (Below.refl w.heap.size w) (Nat.le_refl _))
  have HV := Lib.hid hv
  have HB := Lib.hid hb
  clear hv hb htl
  obtain ⟨x, hx⟩ : ∃ x, x = id % 16 := ⟨_, rfl⟩
  have tx : id.tmod 16 = x := by rw [Int.tmod_eq_emod_of_nonneg i0]; exact hx.symm
  have wx1 : IntKind.u8.wrap x = x := by rw [hx]; simp [IntKind.wrap, IntKind.signed, IntKind.bits]; omega
  have wx2 : IntKind.i64.wrap x = x := by rw [hx, IntKind.wrap_i64]; omega
  clear hx
  go_enter Try.func5, Try.ntmps5
  go_wp2_with fail
  refine (tawake_any M0.out).mono ?_
  rintro e w1 ⟨rfl, m⟩
  have C1 := Lib.hid (tplayed_any m v l HV.out)
  clear m M0
  go_wp2_with fail
  refine (C1.out).mono ?_
  rintro e w2 ⟨s, g, t, L, rfl, hp, m⟩
  have HS := Lib.hid hp.sinv
  have C2 := Lib.hid (tgen_any m n)
  have C3 := Lib.hid (trel_any m HS.out.inv.good n)
  clear hp m C1 HV
  go_wp2_with fail
  refine (C2.out).mono ?_
  rintro e w3 ⟨rfl, rfl⟩
  obtain ⟨gn, hgn⟩ : ∃ gn, gn = gget t.gl n := ⟨_, rfl⟩
  rw [← hgn]
  have HGN := Lib.hid hgn
  clear hgn C2
  go_wp2_with fail
  refine (C3.out).mono ?_
  intro e w4 hE
  obtain ⟨r1, t1, L1, hP, rfl, m⟩ := RelE.plain hE
  have HS1 := Lib.hid (HS.out.rel hP)
  by_cases hr : r1 = 0
  rotate_left
  · have hr2 : (r1 == 0) = false := beq_eq_false_iff_ne.2 hr
    have HZ := Lib.hid m.bel
    clear hE hP m C3 HS HS1
    go_wp2
    go_ret
    exact ⟨rfl, HZ.out⟩
  subst hr
  have HRL := Lib.hid (rel_ok HS.out hP)
  have HGE := Lib.hid (m.gem t1.gg)
  have C4 := Lib.hid (taddr_any m HS1.out.inv.ok x n 0)
  clear hE hP m C3
  go_wp2_with fail
  refine (C4.out).mono ?_
  intro e w5 hE
  obtain ⟨p2, r2, t2, L2, hP, rfl, m⟩ := AddrE.plain hE
  obtain ⟨hr2, rfl, rfl⟩ := addr_none HRL.out.1 hP
  have C5 := Lib.hid (treg_any m HS1.out.inv.key (A := A) (c := c) (tm := tm) (HB.out.src m.bel) (fun hne p hp e => by
        obtain ⟨bb, off2, h1, h2, -⟩ := HB.out hne
        rw [h1] at hp
        cases hp
        have := HGE.out
        simp only at e
        omega) size false)
  clear hE hP m C4
  have e1 : (170 : Int) ≠ 171 := by decide
  rcases hr2 with rfl | rfl
  all_goals
    go_wp2_with fail
    refine (C5.out).mono ?_
    intro e w6 hE
    obtain ⟨k, r3, t3, hP, rfl, m⟩ := RegE.plain hE
    have HNR := Lib.hid (num_plain (t := t) HS1.out HRL.out.1 HRL.out.2.1 HRL.out.2.2.1 HRL.out.2.2.2 x hP)
    have HS3 := Lib.hid (HS1.out.reg hP)
    clear hE hP C5
    by_cases hr : r3 = 0
    rotate_left
    · obtain ⟨rfl, rfl⟩ := HNR.out.bad hr
      have HZ := Lib.hid m.bel
      clear HNR m hr
      go_wp2
      go_ret
      exact ⟨rfl, HZ.out⟩
    subst hr
    have hk1 := HNR.out.le rfl
    have hk2 := HNR.out.lo rfl
    have hkn1 : ¬ n < k := by omega
    have hkn2 : ¬ k < 1 := by omega
    have C6 := Lib.hid (tgen_any m n)
    have C7 := Lib.hid (tblocks_any m HS3.out.inv.good HS3.out.num x)
    have HBL := Lib.hid (HNR.out.blks rfl)
    have HGK := Lib.hid (HNR.out.gen rfl)
    clear m HNR
    by_cases hkn : k = n
    · subst hkn
      have hgg := HGK.out rfl
      rw [← HGN.out] at hgg
      rw [hgg] at C6
      clear hgg
      go_wp2_with fail
      refine (C6.out).mono ?_
      rintro e w7 ⟨rfl, rfl⟩
      clear C6
      go_wp2_with fail
      refine (C7.out).mono ?_
      rintro e w8 ⟨vb, rfl, m⟩
      obtain ⟨bA, bc, rfl, hbc, -⟩ := m.bksv
      have M8 : Hid (Has w.heap.size w w8 (Star (Bks (.slice bA (blksS t3 x).length bc) (blksS t3 x)) Emp)) := Lib.hid (m.norm (Star (Bks (.slice bA (blksS t3 x).length bc) (blksS t3 x)) Emp))
      clear m C7
      have hb64 := blks_len HS3.out x
      generalize blksS t3 x = lb at M8 HBL hb64
      go_wp2_with fail
      go_loopw [20] (fun i wr => ∃ k : Nat, k ≤ lb.length ∧ i = .int .i64 k ∧ Hid (Has w.heap.size w wr (Star (Bks (.slice bA lb.length bc) lb) Emp))) (fun i _ => lb.length - (intOf i).toNat)
      case atStart => exact ⟨0, Nat.zero_le _, rfl, M8⟩
      case round =>
        obtain ⟨j, hj, rfl, hM⟩ := hrel
        by_cases hlt : j < lb.length
        · obtain ⟨b, hbj⟩ : ∃ b, lb[j]? = some b := ⟨lb[j], List.getElem?_eq_getElem hlt⟩
          obtain ⟨bA2, bc2, hbv, -, hcell⟩ := hM.out.bksv
          cases hbv
          obtain ⟨bg, rfl, hcj⟩ := hcell j b hbj
          have c0 : wr.cell? ⟨bg, j * 4, none⟩ = some (.int .i64 b.md) := hcj 0 _ rfl
          have hne : ¬ b.md = k := HBL.out b (List.mem_of_getElem? hbj)
          clear hcell hcj hbj
          go_wp2
          go_roundw
          case rel => exact ⟨j + 1, by omega, by go_num, hM⟩
          case measure => simp [intOf]; omega
        · go_wp2
          go_ret
          exact ⟨rfl, hM.out.bel⟩
    · clear C6
      go_wp2_with fail
      refine (C7.out).mono ?_
      rintro e w8 ⟨vb, rfl, m⟩
      obtain ⟨bA, bc, rfl, hbc, -⟩ := m.bksv
      have M8 : Hid (Has w.heap.size w w8 (Star (Bks (.slice bA (blksS t3 x).length bc) (blksS t3 x)) Emp)) := Lib.hid (m.norm (Star (Bks (.slice bA (blksS t3 x).length bc) (blksS t3 x)) Emp))
      clear m C7
      have hb64 := blks_len HS3.out x
      generalize blksS t3 x = lb at M8 HBL hb64
      go_wp2_with fail
      go_loopw [20] (fun i wr => ∃ k : Nat, k ≤ lb.length ∧ i = .int .i64 k ∧ Hid (Has w.heap.size w wr (Star (Bks (.slice bA lb.length bc) lb) Emp))) (fun i _ => lb.length - (intOf i).toNat)
      case atStart => exact ⟨0, Nat.zero_le _, rfl, M8⟩
      case round =>
        obtain ⟨j, hj, rfl, hM⟩ := hrel
        by_cases hlt : j < lb.length
        · obtain ⟨b, hbj⟩ : ∃ b, lb[j]? = some b := ⟨lb[j], List.getElem?_eq_getElem hlt⟩
          obtain ⟨bA2, bc2, hbv, -, hcell⟩ := hM.out.bksv
          cases hbv
          obtain ⟨bg, rfl, hcj⟩ := hcell j b hbj
          have c0 : wr.cell? ⟨bg, j * 4, none⟩ = some (.int .i64 b.md) := hcj 0 _ rfl
          have hne : ¬ b.md = k := HBL.out b (List.mem_of_getElem? hbj)
          clear hcell hcj hbj
          go_wp2
          go_roundw
          case rel => exact ⟨j + 1, by omega, by go_num, hM⟩
          case measure => simp [intOf]; omega
        · go_wp2
          go_ret
          exact ⟨rfl, hM.out.bel⟩
end Go.Proofs.Ytpenejigebkkmaa
