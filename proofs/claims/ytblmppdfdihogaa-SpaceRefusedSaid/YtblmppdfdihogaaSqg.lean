/-
  SpaceRefused: the walk.
  Conditions: none. (My own text.)
-/
import Derived.Test.YtblmppdfdihogaaSqd
import Derived.Test.YtblmppdfdihogaaSqp
namespace Go.Proofs.Ytblmppdfdihogaa
open Go.RowKit Spm
set_option linter.unusedVariables false
set_option linter.unusedSimpArgs false

set_option maxHeartbeats 2000000 in
theorem refused_walk (v : Value) (l : List ActM) (m : ActM) (hm : ActRng m.x) (at_ : Int) (hat : at_ ≤ 9223372036854775807) (w : World) (hv : ActsV w w.heap.size v l) (hb : BytesAt w w.heap.size m.A m.x.b) :
    Calls Try.prog 8 #[v, .agg #[.int .i64 m.x.d, .int .i64 m.x.at_, .int .i64 m.x.n, .int .i64 m.x.p, .slice m.A m.x.b.length m.c], .int .i64 at_] w fun e w' => e = .returned (.bool true) ∧ Below w.heap.size w w' := by
  obtain ⟨⟨d, ma, mn, mp, mb⟩, mA, mc⟩ := m
  simp only at hm hb ⊢
  have hw0 : Below w.heap.size w (w.alloc (.cells #[.int .i64 d, .int .i64 ma, .int .i64 mn, .int .i64 mp, .slice mA mb.length mc] 51)) := (Below.refl _ _).alloc (Nat.le_refl _) _
  have hbx := Blk.new w 51 #[.int .i64 d, .int .i64 ma, .int .i64 mn, .int .i64 mp, .slice mA mb.length mc]
  obtain ⟨W, hW⟩ : ∃ W, w.alloc (.cells #[.int .i64 d, .int .i64 ma, .int .i64 mn, .int .i64 mp, .slice mA mb.length mc] 51) = W := ⟨_, rfl⟩
  rw [hW] at hw0 hbx
  have hv := hv.stay hw0 hw0.size
  have hb := hb.stay hw0 hw0.size
  have A1 := Lib.hid awake_any
  have C1 : Hid (∀ {w1 : World}, Below W.heap.size W w1 → Calls Try.prog 11 #[v] w1 fun e w' => ∃ a, e = .returned (.pointer (some ⟨a, 0, none⟩)) ∧ Mine W.heap.size W w' a (playS [] (l.map (·.x)))) := Lib.hid (fun h => played_any h h.size v l hv)
  generalize playS [] (l.map (·.x)) = L at C1
  have D0 := Lib.hid (fun (w1 : World) (a : Nat) (Y : Res) (hY : Fr Y) (h : Has W.heap.size W w1 (Star (Sp a L) Y)) => own_does h ⟨⟨d, ma, mn, mp, mb⟩, mA, mc⟩ hm (hb.src h.bel))
  have HNO := Lib.hid (fun (h : (doesS L ⟨d, ma, mn, mp, mb⟩).2.2 ≠ 0) => does_refused h)
  generalize doesS L ⟨d, ma, mn, mp, mb⟩ = r at D0 HNO
  have HW := Lib.hid hW
  have H0 := Lib.hid hw0
  have HX := Lib.hid hbx
  clear hv hm hb hW hw0 hbx
  go_enter Try.func8, Try.ntmps8
  go_wp2_with fail
  rw [HW.out]
  refine (A1.out _).mono ?_
  rintro e w1 ⟨rfl, h1⟩
  have H1 := Lib.hid h1; clear h1
  go_wp2_with fail
  refine (C1.out H1.out).mono ?_
  rintro e w2 ⟨a, rfl, m2⟩
  have M2 := Lib.hid (Has.of_mine m2); clear m2
  go_wp2_with fail
  refine (own_copy M2.out).mono ?_
  rintro e w3 ⟨c, rfl, m3⟩
  have M3 := Lib.hid m3.swap; clear m3 M2
  have c0 : w3.cell? ⟨w.heap.size, 0, none⟩ = some (.int .i64 d) := (M3.out.bel.cell (p := ⟨w.heap.size, 0, none⟩) HX.out.lt).trans (HX.out.cell 0)
  have c1 : w3.cell? ⟨w.heap.size, 1, none⟩ = some (.int .i64 ma) := (M3.out.bel.cell (p := ⟨w.heap.size, 1, none⟩) HX.out.lt).trans (HX.out.cell 1)
  have c2 : w3.cell? ⟨w.heap.size, 2, none⟩ = some (.int .i64 mn) := (M3.out.bel.cell (p := ⟨w.heap.size, 2, none⟩) HX.out.lt).trans (HX.out.cell 2)
  have c3 : w3.cell? ⟨w.heap.size, 3, none⟩ = some (.int .i64 mp) := (M3.out.bel.cell (p := ⟨w.heap.size, 3, none⟩) HX.out.lt).trans (HX.out.cell 3)
  have c4 : w3.cell? ⟨w.heap.size, 4, none⟩ = some (.slice mA mb.length mc) := (M3.out.bel.cell (p := ⟨w.heap.size, 4, none⟩) HX.out.lt).trans (HX.out.cell 4)
  go_wp2_with fail
  refine (D0.out _ _ _ inferInstance M3.out).mono ?_
  rintro e w4 ⟨rfl, m4⟩
  have M4 := Lib.hid m4; clear m4 M3 c0 c1 c2 c3 c4
  obtain ⟨rL, rn, re⟩ := r
  simp only at HNO M4 ⊢
  by_cases hE : re = 0
  · have HB4 := Lib.hid (H0.out.trans (M4.out.bel.mono H0.out.size))
    subst hE
    clear M4
    go_wp2
    go_ret
    exact ⟨rfl, HB4.out⟩
  · obtain rfl : rL = L := HNO.out hE
    have ee : (re == 0) = false := beq_eq_false_iff_ne.2 hE
    clear HNO
    go_wp2_with fail
    refine (own_peek M4.out at_ hat 16).mono ?_
    rintro e w5 ⟨v5, rfl, m5⟩
    have M5 := Lib.hid m5.r3; clear m5 M4
    go_wp2_with fail
    refine (own_peek M5.out at_ hat 16).mono ?_
    rintro e w6 ⟨v6, rfl, m6⟩
    have M6 := Lib.hid m6.r4; clear m6 M5
    go_wp2_with fail
    refine (own_regions M6.out).mono ?_
    rintro e w7 ⟨v7, rfl, m7⟩
    have M7 := Lib.hid m7.r4; clear m7 M6
    go_wp2_with fail
    refine (own_regions M7.out).mono ?_
    rintro e w8 ⟨v8, rfl, m8⟩
    have M8 := Lib.hid m8; clear m8 M7
    go_wp2_with fail
    refine (same_any M8.out.r3.rs M8.out.rs rfl).mono ?_
    rintro e w9 ⟨rfl, h9⟩
    have m9 := M8.out.stay h9
    have k6 := m9.right.right.right.right.bt.conv
    have k5 := m9.right.right.right.right.right.bt.conv
    have HB9 := Lib.hid (H0.out.trans (m9.bel.mono H0.out.size))
    clear h9 m9 M8
    go_wp2
    go_ret
    exact ⟨by simp, HB9.out⟩
end Go.Proofs.Ytblmppdfdihogaa
