/-
  Layer 17: the law's alike: the program's state and the document's tell the same.
  Conditions: none. (My own text.)
-/
import Derived.Test.YtpenejigebkkmaaGreatTgh
import Derived.Test.YtpenejigebkkmaaGreatTgd
import Derived.Test.YtpenejigebkkmaaGreatTnb
import Derived.Deep.RegionWith
namespace Go.Proofs.YtpenejigebkkmaaGreat
open Go.RowKit Spm
set_option linter.unusedVariables false
set_option linter.unusedSimpArgs false

attribute [local irreducible] wpList
theorem below_drewU {B : Nat} {w : World} : Below B w w.drew := ⟨rfl, rfl, rfl, Nat.le_refl _, fun _ _ => rfl⟩
theorem Has.bkR {B : Nat} {w wr : World} {X : Res} {v : Value} {l : List Bk} (h : Has B w wr (Star (Bks v l) X)) : ∃ A c, v = .slice A l.length c ∧ l.length ≤ c ∧ c ≤ maxLen ∧ ∀ k b, l[k]? = some b → ∃ g, A = some ⟨g, 0, none⟩ ∧ g < wr.heap.size ∧ ∀ j u, (bkC b)[j]? = some u → wr.cell? ⟨g, k * 4 + j, none⟩ = some u :=
  Has.rwsv (T := 69) (n := 4) (cells := bkC) (fun _ => rfl) (show Has B w wr (Star (Rws 69 4 bkC v l) X) from h)
theorem blks_I64 {t : Ts} {L : List Rg} (hs : SInv t L) {id : Int} {b : Bk} (hb : b ∈ blksS t id) : (getS L b.at_ b.sz 0).2 = 0 ∧ I64 b.at_ ∧ I64 b.sz ∧ b.at_ ≤ 9223372036854775807 := by
  obtain ⟨h1, h2, h3, h4, h5⟩ := blk_peek hs hb
  refine ⟨h1, ?_, ?_, by omega⟩ <;> (unfold I64; omega)
set_option maxRecDepth 100000 in
set_option maxHeartbeats 8000000 in
theorem alike17 {B : Nat} {w w1 : World} {Y : Res} [hY : Fr Y] {s a r q : Nat} {t : Ts} {L : List Rg} {d : Dt} (h : Has B w w1 (Tl s t (Star (Sp a L) (Dl r d (Star (Rf q L) Y))))) (hs : SInv t L) (hd : Sim t d) (n id : Int) :
    Calls Tryz.prog 14 #[.pointer (some ⟨s, 0, none⟩), .pointer (some ⟨a, 0, none⟩), .pointer (some ⟨r, 0, none⟩), .pointer (some ⟨q, 0, none⟩), .int .i64 n, .int .i64 id] w1 fun e w' => e = .returned (.bool true) ∧ Has B w w' (Tl s t (Star (Sp a L) (Dl r d (Star (Rf q L) Y)))) := by
  have HS := Lib.hid hs
  have HD := Lib.hid hd
  have C1 := Lib.hid (tstatic_any h n)
  have HBK := Lib.hid (fun b (hb : b ∈ blksS t id) => blks_I64 hs hb)
  clear h hs hd
  go_enter Tryz.func14, Tryz.ntmps14
  go_wp2_with fail
  refine (C1.out).mono ?_
  rintro e w2 ⟨rfl, m⟩
  have M2 := Lib.hid m
  have M2d := Lib.hid (m.norm (Dl r d (Tl s t (Star (Sp a L) (Star (Rf q L) Y)))))
  have c2 := rstatic_any M2d.out n
  rw [(HD.out.stat n).1, (HD.out.stat n).2] at c2
  have C2 := Lib.hid c2
  have C3 := Lib.hid (tgen_any M2.out n)
  have c4 := rgen_any M2d.out n
  rw [HD.out.gens n] at c4
  have C4 := Lib.hid c4
  have C5 := Lib.hid (own_regions (M2.out.pick (Sp a L)))
  generalize bhS t n = bh at *
  generalize stS t n = st at *
  generalize gget t.gl n = gn at *
  clear m c2 c4 C1 M2d
  go_wp2_with fail
  refine (C2.out).mono ?_
  rintro e w3 ⟨rfl, rfl⟩
  clear C2
  go_wp2_with fail
  refine (C3.out).mono ?_
  rintro e w3 ⟨rfl, rfl⟩
  clear C3
  go_wp2_with fail
  refine (C4.out).mono ?_
  rintro e w3 ⟨rfl, rfl⟩
  clear C4
  go_wp2_with fail
  refine (C5.out).mono ?_
  rintro e w4 ⟨v1, rfl, m⟩
  have M4 := Lib.hid (m.norm (Star (Rs v1 L) (Tl s t (Star (Sp a L) (Dl r d (Star (Rf q L) Y))))))
  have C6 := Lib.hid (own_rregions (M4.out.pick (Rf q L)))
  clear m C5 M2
  go_wp2_with fail
  refine (C6.out).mono ?_
  rintro e w5 ⟨v2, rfl, m⟩
  have M5 := Lib.hid (m.norm (Star (Rs v2 L) (Star (Rs v1 L) (Tl s t (Star (Sp a L) (Dl r d (Star (Rf q L) Y)))))))
  have C7 := Lib.hid (same_any M5.out.right.rs M5.out.rs rfl)
  clear m C6 M4
  go_wp2_with fail
  refine (C7.out).mono ?_
  rintro e w6 ⟨rfl, h6⟩
  have M6 := Lib.hid ((M5.out.stay h6).right.right)
  have C8 := Lib.hid (tblocks_any M6.out HS.out.inv.good HS.out.num id)
  clear h6 C7 M5
  go_wp2_with fail
  refine (C8.out).mono ?_
  rintro e w7 ⟨v8, rfl, m⟩
  have M7 := Lib.hid m
  have c9 := rblks_any (m.norm (Dl r d (Star (Bks v8 (blksS t id)) (Tl s t (Star (Sp a L) (Star (Rf q L) Y)))))) (HD.out.dinv HS.out).bll id
  unfold DBlksE at c9
  rw [HD.out.blks HS.out id] at c9
  have C9 := Lib.hid c9
  clear m c9 C8 M6
  go_wp2_with fail
  refine (C9.out).mono ?_
  rintro e w8 ⟨v9, rfl, m⟩
  generalize blksS t id = bs at *
  have M8 := Lib.hid (m.norm (Star (Bks v8 bs) (Star (Blks v9 bs) (Tl s t (Star (Sp a L) (Dl r d (Star (Rf q L) Y)))))))
  clear m C9 M7
  obtain ⟨A1, k1, hv1, hl1, hc1, -⟩ := M8.out.bkR
  obtain ⟨A2, k2, hv2, hl2, hc2, -⟩ := Has.rwsv rb_rowT.len M8.out.right
  subst hv1 hv2
  unfold maxLen at hc1 hc2
  obtain ⟨N, hN⟩ : ∃ N, bs.length = N := ⟨_, rfl⟩
  have HN := Lib.hid hN
  rw [hN] at M8 hl1 hl2 ⊢
  clear hN
  have hle : N ≤ 9223372036854775807 := by omega
  clear hl1 hl2 hc1 hc2
  go_wp2_with fail
  go_loopw [19] (fun i wr => ∃ k : Nat, k ≤ N ∧ i = .int .i64 k ∧ Hid (Has B w wr (Star (Bks (.slice A1 N k1) bs) (Star (Blks (.slice A2 N k2) bs) (Tl s t (Star (Sp a L) (Dl r d (Star (Rf q L) Y)))))))) (fun i _ => N - (intOf i).toNat)
  case atStart => exact ⟨0, Nat.zero_le _, rfl, M8⟩
  case round =>
    clear M8
    obtain ⟨k, hk, rfl, hM⟩ := hrel
    by_cases hlt : k < N
    · obtain ⟨x, hx⟩ : ∃ x, bs[k]? = some x := ⟨_, List.getElem?_eq_getElem (by rw [HN.out]; exact hlt)⟩
      obtain ⟨A1', k1', hv1, -, -, hr1⟩ := hM.out.bkR
      obtain ⟨A2', k2', hv2, -, -, hr2⟩ := Has.rwsv rb_rowT.len hM.out.right
      rw [HN.out] at hv1 hv2
      simp only [Value.slice.injEq, true_and] at hv1 hv2
      obtain ⟨rfl, rfl⟩ := hv1
      obtain ⟨rfl, rfl⟩ := hv2
      obtain ⟨g1, rfl, -, hcell1⟩ := hr1 k x hx
      obtain ⟨g2, rfl, -, hcell2⟩ := hr2 k x hx
      have HX := Lib.hid hx
      have hbnd := HBK.out x (List.mem_of_getElem? hx)
      obtain ⟨xm, xg, xa, xs⟩ := x
      simp only at hbnd
      have a0 : wr.cell? ⟨g1, k * 4, none⟩ = some (.int .i64 xm) := hcell1 0 _ rfl
      have a1 : wr.cell? ⟨g1, k * 4 + 1, none⟩ = some (.int .i64 xg) := hcell1 1 _ rfl
      have a2 : wr.cell? ⟨g1, k * 4 + 2, none⟩ = some (.int .i64 xa) := hcell1 2 _ rfl
      have a3 : wr.cell? ⟨g1, k * 4 + 3, none⟩ = some (.int .i64 xs) := hcell1 3 _ rfl
      have b0 : wr.cell? ⟨g2, k * 4, none⟩ = some (.int .i64 xm) := hcell2 0 _ rfl
      have b1 : wr.cell? ⟨g2, k * 4 + 1, none⟩ = some (.int .i64 xg) := hcell2 1 _ rfl
      have b2 : wr.cell? ⟨g2, k * 4 + 2, none⟩ = some (.int .i64 xa) := hcell2 2 _ rfl
      have b3 : wr.cell? ⟨g2, k * 4 + 3, none⟩ = some (.int .i64 xs) := hcell2 3 _ rfl
      obtain ⟨pk, p1, p2, p3⟩ := hbnd
      clear hcell1 hcell2 hr1 hr2 hx
      have i0 : (0 : Int) ≤ (k : Int) := by omega
      have i1 : (k : Int) < (N : Int) := by omega
      go_upto_region 12 with fail
      go_quiet (fail)
      have MD := Lib.hid (hM.out.stay (below_drewN (Below.refl _ _) nq))
      obtain ⟨wo, hwo⟩ : ∃ wo, wr.drewN nq = wo := ⟨_, rfl⟩
      rw [hwo] at MD ⊢
      clear hwo a0 a1 a2 a3 b0 b1 b2 b3 hM
      have CELL : Hid (∀ W : World, Has B w W (Star (Bks (.slice (some ⟨g1, 0, none⟩) N k1) bs) (Star (Blks (.slice (some ⟨g2, 0, none⟩) N k2) bs) (Tl s t (Star (Sp a L) (Dl r d (Star (Rf q L) Y)))))) → W.cell? ⟨g1, k * 4 + 2, none⟩ = some (.int .i64 xa) ∧ W.cell? ⟨g1, k * 4 + 3, none⟩ = some (.int .i64 xs) ∧ W.cell? ⟨g2, k * 4 + 2, none⟩ = some (.int .i64 xa) ∧ W.cell? ⟨g2, k * 4 + 3, none⟩ = some (.int .i64 xs)) := Lib.hid (fun W hW => by
        obtain ⟨A1', k1', hv1, -, -, hr1⟩ := hW.bkR
        obtain ⟨A2', k2', hv2, -, -, hr2⟩ := Has.rwsv rb_rowT.len hW.right
        rw [HN.out] at hv1 hv2
        simp only [Value.slice.injEq, true_and] at hv1 hv2
        obtain ⟨rfl, rfl⟩ := hv1
        obtain ⟨rfl, rfl⟩ := hv2
        obtain ⟨g1', hg1, -, hcell1⟩ := hr1 k _ HX.out
        obtain ⟨g2', hg2, -, hcell2⟩ := hr2 k _ HX.out
        cases hg1
        cases hg2
        exact ⟨hcell1 2 _ rfl, hcell1 3 _ rfl, hcell2 2 _ rfl, hcell2 3 _ rfl⟩)
      obtain ⟨c2, c3, -, -⟩ := CELL.out _ MD.out
      have ME := Lib.hid (MD.out.stay below_drewU)
      have C10 := Lib.hid (own_peek (ME.out.pick (Sp a L)) xa p3 xs)
      rw [pk] at C10
      clear MD
      go_wp2_with fail
      go_region_with (go_at_call 41; refine (C10.out).mono ?_; rintro e w5 ⟨v5, rfl, m5⟩)
      all_goals
        have M5 := Lib.hid (m5.norm (Star (Bks (.slice (some ⟨g1, 0, none⟩) N k1) bs) (Star (Blks (.slice (some ⟨g2, 0, none⟩) N k2) bs) (Tl s t (Star (Sp a L) (Dl r d (Star (Rf q L) Y)))))))
        have M5b := Lib.hid (m5.norm (Star (Bt v5 (getS L xa xs 0).1) (Star (Bks (.slice (some ⟨g1, 0, none⟩) N k1) bs) (Star (Blks (.slice (some ⟨g2, 0, none⟩) N k2) bs) (Tl s t (Star (Sp a L) (Dl r d (Star (Rf q L) Y))))))))
        clear m5 c2 c3 ME C10
        obtain ⟨-, -, d2, d3⟩ := CELL.out _ M5.out
        have MF := Lib.hid (M5b.out.stay below_drewU)
        have C11 := Lib.hid (own_rget (MF.out.pick (Rf q L)) xa p1 xs 0 p2 (Or.inl rfl))
        rw [pk] at C11
        clear M5 M5b
        go_wp2_with fail
        go_region_with (go_at_call 42; refine (C11.out).mono ?_; rintro e w6 ⟨v6, rfl, m6⟩)
        all_goals
          have k6 := m6.bt.conv
          have k5 := (m6.pick (Bt v5 (getS L xa xs 0).1)).bt.conv
          have M6 := Lib.hid (m6.norm (Star (Bks (.slice (some ⟨g1, 0, none⟩) N k1) bs) (Star (Blks (.slice (some ⟨g2, 0, none⟩) N k2) bs) (Tl s t (Star (Sp a L) (Dl r d (Star (Rf q L) Y)))))))
          clear m6 MF C11 d2 d3
          generalize strB (getS L xa xs 0).1 = S at *
          clear pk p1 p2 p3
          go_wp2
          first
            | (go_roundw
               case rel => exact ⟨k + 1, by omega, by go_num, M6⟩
               case measure => simp [intOf]; omega)
            | (refine ⟨?_, ?_⟩
               · (repeat apply Exists.intro)
                 refine ⟨?_, rfl⟩
                 exact ⟨k + 1, by omega, by go_num, M6⟩
               · simp [intOf]; omega)
    · have H1 := Lib.hid hM.out.right.right
      go_wp2
      go_ret
      exact ⟨rfl, H1.out⟩
end Go.Proofs.YtpenejigebkkmaaGreat
