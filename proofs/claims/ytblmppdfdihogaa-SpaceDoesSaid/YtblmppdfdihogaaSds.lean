/-
  SpaceDoes: do a space and the document's tell the same: the law's Alike.
  Conditions: none. (My own text.)
-/
import Derived.Test.YtblmppdfdihogaaSdp
import Derived.Test.YtblmppdfdihogaaRfw
namespace Go.Proofs.Ytblmppdfdihogaa
open Go.RowKit Spm
set_option linter.unusedVariables false
set_option linter.unusedSimpArgs false

theorem getS_le (L : List Rg) (x n p : Int) : (getS L x n p).1.length ≤ 1048576 := by
  unfold getS
  split
  · simp
  · split
    · simp
    · split
      · simp
      · simp only [List.length_take]; omega

/-- Owned, of three lists of bytes of the law's own: they are not used any more. -/
theorem own_owned3 {B : Nat} {w wr : World} {Y : Res} [hY : Fr Y] {v1 v2 v3 : Value} {l1 l2 l3 : List UInt8} (h : Has B w wr (Star (Bt v1 l1) (Star (Bt v2 l2) (Star (Bt v3 l3) Y)))) (h1 : l1.length ≤ 1048576) (h2 : l2.length ≤ 1048576) (h3 : l3.length ≤ 1048576) :
    Calls Try.prog 54 #[.slice (some ⟨wr.heap.size, 0, none⟩) 3 3] (wr.alloc (.cells #[v1, v2, v3] 32)) fun e w' => e = .returned (.bool true) ∧ Has B w w' Y := by
  obtain ⟨F, ⟨F1, G1, ⟨b1, o1⟩, ⟨F2, G2, ⟨b2, o2⟩, ⟨F3, G3, ⟨b3, o3⟩, hy, d3, e3, f3⟩, d2, e2, f2⟩, d1, e1, f1⟩, hF⟩ := h.own
  have hbel : Below wr.heap.size wr (wr.alloc (.cells #[v1, v2, v3] 32)) := (Below.refl _ _).alloc (Nat.le_refl _) _
  have n1 := b1.lt
  have n2 := b2.lt
  have n3 := b3.lt
  have x12 : ∀ b, v1.ownBlock = some b → v2.ownBlock ≠ some b := fun b hb hc => d1 b (o1 b hb) (e2 b (o2 b hc))
  have x13 : ∀ b, v1.ownBlock = some b → v3.ownBlock ≠ some b := fun b hb hc => d1 b (o1 b hb) (f2 b (e3 b (o3 b hc)))
  have x23 : ∀ b, v2.ownBlock = some b → v3.ownBlock ≠ some b := fun b hb hc => d2 b (o2 b hb) (e3 b (o3 b hc))
  have hcase : ∀ (j : Nat) (q : Value × List UInt8), [(v1, l1), (v2, l2), (v3, l3)][j]? = some q → (j = 0 ∧ q = (v1, l1)) ∨ (j = 1 ∧ q = (v2, l2)) ∨ (j = 2 ∧ q = (v3, l3)) := fun j q hq => by
    match j, hq with
    | 0, hq => simp at hq; exact .inl ⟨rfl, hq.symm⟩
    | 1, hq => simp at hq; exact .inr (.inl ⟨rfl, hq.symm⟩)
    | 2, hq => simp at hq; exact .inr (.inr ⟨rfl, hq.symm⟩)
    | j + 3, hq => simp at hq
  have key := owned_any wr.heap.size 3 [(v1, l1), (v2, l2), (v3, l3)] (by simp) (wr.alloc (.cells #[v1, v2, v3] 32)) (by
      have := Blk.new wr 32 #[v1, v2, v3]
      simpa using this) ⟨by simp, fun j q hq => ?_, fun j q hq b hb => ?_, fun i j q q' hi hj hij b hb hb' => ?_⟩ (fun j q hq => ?_) (fun j q hq => ?_)
  · refine key.mono fun e w' ⟨he, hk⟩ => ⟨he, ?_⟩
    have hk' : Keeps (fun b => v1.ownBlock = some b ∨ v2.ownBlock = some b ∨ v3.ownBlock = some b) wr w' := (Keeps.of_below hbel).trans hk (fun i ⟨q, hq, hqi⟩ => by
      simp only [List.mem_cons, List.not_mem_nil, or_false] at hq
      rcases hq with rfl | rfl | rfl
      · exact .inl (.inl hqi)
      · exact .inl (.inr (.inl hqi))
      · exact .inl (.inr (.inr hqi)))
    refine ⟨⟨G3, hY.keep hy fun k hk3 hlt => hk'.block k hlt fun hk1 => ?_, fun k hk3 => hF k (f1 k (f2 k (f3 k hk3)))⟩, h.bel.trans (hk'.below h.le fun k hk1 => ?_), Nat.le_trans h.le hk'.size⟩
    · rcases hk1 with hk1 | hk1 | hk1
      · exact d1 k (o1 k hk1) (f2 k (f3 k hk3))
      · exact d2 k (o2 k hk1) (f3 k hk3)
      · exact d3 k (o3 k hk1) hk3
    · rcases hk1 with hk1 | hk1 | hk1
      · exact hF k (e1 k (o1 k hk1))
      · exact hF k (f1 k (e2 k (o2 k hk1)))
      · exact hF k (f1 k (f2 k (e3 k (o3 k hk1))))
  · rcases hcase j q hq with ⟨_, rfl⟩ | ⟨_, rfl⟩ | ⟨_, rfl⟩
    · exact fun e => by have := (n1 _ e).2; omega
    · exact fun e => by have := (n2 _ e).2; omega
    · exact fun e => by have := (n3 _ e).2; omega
  · rcases hcase j q hq with ⟨_, rfl⟩ | ⟨_, rfl⟩ | ⟨_, rfl⟩
    · have := (n1 _ hb).2; simp; omega
    · have := (n2 _ hb).2; simp; omega
    · have := (n3 _ hb).2; simp; omega
  · rcases hcase i q hi with ⟨rfl, rfl⟩ | ⟨rfl, rfl⟩ | ⟨rfl, rfl⟩ <;> rcases hcase j q' hj with ⟨rfl, rfl⟩ | ⟨rfl, rfl⟩ | ⟨rfl, rfl⟩
    · exact hij rfl
    · exact x12 b hb hb'
    · exact x13 b hb hb'
    · exact x12 b hb' hb
    · exact hij rfl
    · exact x23 b hb hb'
    · exact x13 b hb' hb
    · exact x23 b hb' hb
    · exact hij rfl
  · rcases hcase j q hq with ⟨_, rfl⟩ | ⟨_, rfl⟩ | ⟨_, rfl⟩
    · exact owns_block b1 (fun g hg => hbel.block g (n1 g hg).2)
    · exact owns_block b2 (fun g hg => hbel.block g (n2 g hg).2)
    · exact owns_block b3 (fun g hg => hbel.block g (n3 g hg).2)
  · rcases hcase j q hq with ⟨_, rfl⟩ | ⟨_, rfl⟩ | ⟨_, rfl⟩
    · exact h1
    · exact h2
    · exact h3

set_option maxRecDepth 100000 in
set_option maxHeartbeats 4000000 in
theorem alike05 {B : Nat} {w w1 : World} {a c : Nat} {L : List Rg} {Y : Res} [hY : Fr Y] (hM : Has B w w1 (Star (Sp a L) (Star (Rf c L) Y))) (x n : Int) (hx : I64 x) (hn : I64 n) :
    Calls Try.prog 29 #[.pointer (some ⟨a, 0, none⟩), .pointer (some ⟨c, 0, none⟩), .int .i64 x, .int .i64 n] w1 fun e w' => e = .returned (.bool true) ∧ Has B w w' (Star (Sp a L) (Star (Rf c L) Y)) := by
  have HM := Lib.hid hM
  clear hM
  have hx' := hx.2
  have HX := Lib.hid hx
  have HN := Lib.hid hn
  clear hx hn
  go_enter Try.func29, Try.ntmps29
  go_wp2_with fail
  refine (own_gap HM.out n).mono ?_
  rintro e w2 ⟨rfl, m2⟩
  have M2 := Lib.hid m2.swap; clear m2 HM
  go_wp2_with fail
  refine (own_rgap M2.out n).mono ?_
  rintro e w3 ⟨rfl, m3⟩
  have M3 := Lib.hid m3.swap; clear m3 M2
  generalize (gapS L n).1 = G1
  generalize (gapS L n).2 = G2
  go_wp2_with fail
  refine (own_regions M3.out).mono ?_
  rintro e w4 ⟨v4, rfl, m4⟩
  have M4 := Lib.hid m4.r3; clear m4 M3
  go_wp2_with fail
  refine (own_rregions M4.out).mono ?_
  rintro e w5 ⟨v5, rfl, m5⟩
  have M5 := Lib.hid m5; clear m5 M4
  go_wp2_with fail
  refine (same_any M5.out.r3.rs M5.out.rs rfl).mono ?_
  rintro e w6 ⟨rfl, h6⟩
  have M6 := Lib.hid (M5.out.stay h6).right.swap.right.swap; clear h6 M5
  go_wp2_with fail
  refine (own_read M6.out x hx' n).mono ?_
  rintro e w7 ⟨v7, rfl, m7⟩
  obtain ⟨A7, c7, rfl, _, _, _⟩ := m7.bt.src'
  have M7 := Lib.hid m7.r3; clear m7 M6
  go_wp2_with fail
  refine (own_rget M7.out x HX.out n 1 HN.out (Or.inr (Or.inl rfl))).mono ?_
  rintro e w8 ⟨v8, rfl, m8⟩
  have k8 := m8.bt.conv
  have k7 := m8.r3.bt.conv
  have M8 := Lib.hid m8.right.r3; clear m8 M7
  have hl7 := getS_le L x n 1
  generalize (getS L x n 1).2 = E1 at *
  generalize (getS L x n 1).1 = l7 at *
  generalize strB l7 = S1 at k7 k8
  go_wp2_with fail
  clear k8 k7
  refine (own_peek M8.out x hx' n).mono ?_
  rintro e w9 ⟨v9, rfl, m9⟩
  obtain ⟨A9, c9, rfl, _, _, _⟩ := m9.bt.src'
  have M9 := Lib.hid m9.r3; clear m9 M8
  go_wp2_with fail
  refine (own_rget M9.out x HX.out n 0 HN.out (Or.inl rfl)).mono ?_
  rintro e w10 ⟨v10, rfl, m10⟩
  have k10 := m10.bt.conv
  have k9 := m10.r3.bt.conv
  have M10 := Lib.hid m10.right.r3; clear m10 M9
  have hl9 := getS_le L x n 0
  generalize (getS L x n 0).2 = E2 at *
  generalize (getS L x n 0).1 = l9 at *
  generalize strB l9 = S2 at k9 k10
  go_wp2_with fail
  clear k9 k10
  refine (own_fetch M10.out x hx').mono ?_
  rintro e w11 ⟨v11, rfl, m11⟩
  obtain ⟨A11, c11, rfl, _, _, _⟩ := m11.bt.src'
  have M11 := Lib.hid m11.r3; clear m11 M10
  go_wp2_with fail
  refine (own_rget M11.out x HX.out 8 4 (by unfold I64; omega) (Or.inr (Or.inr (Or.inr rfl)))).mono ?_
  rintro e w12 ⟨v12, rfl, m12⟩
  have k12 := m12.bt.conv
  have k11 := m12.r3.bt.conv
  have M12 := Lib.hid m12.right.swap.r5.r5.swap; clear m12 M11
  have hl11 := getS_le L x 8 4
  generalize (getS L x 8 4).2 = E3 at *
  generalize (getS L x 8 4).1 = l11 at *
  generalize strB l11 = S3 at k11 k12
  have C13 := Lib.hid (own_owned3 M12.out hl7 hl9 hl11)
  go_wp2_with fail
  clear k12 k11
  refine (C13.out).mono ?_
  rintro e w13 ⟨rfl, m13⟩
  have M13 := Lib.hid m13.swap; clear m13 M12 C13
  go_wp2_with fail
  refine (own_word M13.out x hx').mono ?_
  rintro e w14 ⟨rfl, m14⟩
  have M14 := Lib.hid m14.swap; clear m14 M13
  go_wp2_with fail
  refine (own_rword M14.out x HX.out 1 (Or.inr (Or.inl rfl))).mono ?_
  rintro e w15 ⟨rfl, m15⟩
  have M15 := Lib.hid m15.swap; clear m15 M14
  generalize (wordAt L x 1).1 = U1
  generalize (wordAt L x 1).2 = U2
  go_wp2_with fail
  refine (own_peekWord M15.out x hx').mono ?_
  rintro e w16 ⟨rfl, m16⟩
  have M16 := Lib.hid m16.swap; clear m16 M15
  go_wp2_with fail
  refine (own_rword M16.out x HX.out 0 (Or.inl rfl)).mono ?_
  rintro e w17 ⟨rfl, m17⟩
  have M17 := Lib.hid m17.swap; clear m17 M16
  generalize (wordAt L x 0).1 = U3
  generalize (wordAt L x 0).2 = U4
  go_wp2
  go_ret
  exact ⟨by simp, M17.out⟩
end Go.Proofs.Ytblmppdfdihogaa
