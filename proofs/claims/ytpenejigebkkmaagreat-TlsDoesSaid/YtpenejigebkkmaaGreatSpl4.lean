/-
  Layer 5: MapAt of the program, a way through it.
  Conditions: none. (My own text.)
-/
import Derived.Test.YtpenejigebkkmaaGreatSp3
import Derived.Deep.RegionWith
namespace Go.Proofs.YtpenejigebkkmaaGreat
open Go.RowKit Spm
set_option linter.unusedVariables false
set_option linter.unusedSimpArgs false

set_option maxHeartbeats 4000000 in
set_option maxRecDepth 100000 in
theorem mapAt_oj (j : Nat) (a : Nat) (v : Value) (Q : List RowP) (F : Nat → Prop) (hok : Ok (Q.map (·.1))) (at_ size p : Int) (hr : right size p = 0) (hb : ¬ atBad at_ size) (w : World) (hs : Spc 59 74 w a v Q) (hF : ∀ k ∈ foot a v Q, F k) (hK : insP at_ (Q.map (·.1)) = (j + 1)) (hn : j + 1 < Q.length) (hp : ∀ x, (Q.map (·.1))[j]? = some x → x.at_ + x.sz ≤ at_) (hm0 : ∀ x, (Q.map (·.1))[j + 1]? = some x → at_ + up size ≤ x.at_) :
    Calls Tryz.prog 63 #[.pointer (some ⟨a, 0, none⟩), .int .i64 at_, .int .i64 size, .int .i64 p] w (SetsE a F (mapAtS (Q.map (·.1)) at_ size p) w) := by
  have c1 := fun w => right_any size p w
  rw [hr] at c1
  have C1 := Lib.hid c1
  have HPS : Hid (PSp w a F (Q.map (·.1))) := Lib.hid ⟨v, Q, hs, rfl, hF⟩
  obtain ⟨z1, z2, z3, z4⟩ := right_eq hr
  have C2 := Lib.hid (fun w => up_any size z1 z2 w)
  have hU := up_ge size z1
  have hU2 := up_le size z1 z2
  have R1 : Hid (meets (Q.map (·.1)) at_ (up size) = true → mapAtS (Q.map (·.1)) at_ size p = (Q.map (·.1), 51)) := Lib.hid (mapAtS_m hr hb)
  have R2 : Hid (meets (Q.map (·.1)) at_ (up size) = false → mapAtS (Q.map (·.1)) at_ size p = ((Q.map (·.1)).take (insP at_ (Q.map (·.1))) ++ ⟨at_, up size, p, zeros (up size)⟩ :: (Q.map (·.1)).drop (insP at_ (Q.map (·.1))), 0)) := Lib.hid (mapAtS_ok hr hb)
  unfold atBad at hb
  generalize mapAtS (Q.map (·.1)) at_ size p = res at R1 R2 ⊢
  generalize up size = U at C2 hU hU2 hb R1 R2 hm0
  obtain ⟨_, _, hU1, _⟩ := hU
  obtain ⟨u, rfl⟩ : ∃ u : Nat, U = (u : Int) := ⟨U.toNat, by omega⟩
  have h1 : ¬ at_ < 4096 := by omega
  have h2 : at_ % 64 = 0 := by omega
  have h3 : ¬ 4294967296 - (u : Int) < at_ := by omega
  obtain ⟨A, cap, rfl, hc0, hcap, hm, hrow⟩ := hs.cells
  have HR := Lib.hid hrow; clear hrow
  have hbox := hs.box.lt
  have HSP := Lib.hid hs; clear hs
  have HFF := Lib.hid hF; clear hF
  have HK := Lib.hid hK; clear hK
  have HO := Lib.hid hok
  have hqn : Q.length ≤ 67108864 := by have := hok.len; simp at this; omega
  unfold maxLen at hm
  clear c1 hr hb z1 z2 hok
  obtain ⟨x, hx⟩ : ∃ x, Q[j]? = some x := ⟨Q[j]'(by omega), List.getElem?_eq_getElem (by omega)⟩
  obtain ⟨g, rfl, hg, hcell⟩ := HR.out (j) x hx
  have hx1 : (Q.map (·.1))[j]? = some x.1 := by rw [List.getElem?_map, hx]; rfl
  have HX1 := Lib.hid hx1; clear hx1 hx
  obtain ⟨⟨ya, ys, yp, yb⟩, yk, yc⟩ := x
  have y0 : w.cell? ⟨g, j * 4, none⟩ = some (.int .i64 ya) := hcell 0 _ rfl
  have y1 : w.cell? ⟨g, j * 4 + 1, none⟩ = some (.int .i64 ys) := hcell 1 _ rfl
  have hrg := HO.out.each _ (List.mem_of_getElem? HX1.out)
  have ylo := hrg.lo
  have yhi := hrg.hi
  have ysl := hrg.slo
  simp only at ylo yhi ysl
  clear hrg hcell
  obtain ⟨x, hx⟩ : ∃ x, Q[j + 1]? = some x := ⟨Q[j + 1]'(by omega), List.getElem?_eq_getElem (by omega)⟩
  obtain ⟨g', hgg, _, hcell⟩ := HR.out (j + 1) x hx
  have hgg2 : g = g' := by simpa using hgg
  subst hgg2
  clear hgg
  have hx1 : (Q.map (·.1))[j + 1]? = some x.1 := by rw [List.getElem?_map, hx]; rfl
  have HX0 := Lib.hid hx1; clear hx1 hx
  obtain ⟨⟨xa, xs, xp, xb⟩, xk, xc⟩ := x
  have x0 : w.cell? ⟨g, (j + 1) * 4, none⟩ = some (.int .i64 xa) := hcell 0 _ rfl
  have x1 : w.cell? ⟨g, (j + 1) * 4 + 1, none⟩ = some (.int .i64 xs) := hcell 1 _ rfl
  have hrg := HO.out.each _ (List.mem_of_getElem? HX0.out)
  have xlo := hrg.lo
  have xhi := hrg.hi
  have xsl := hrg.slo
  simp only at xlo xhi xsl
  clear hrg hcell
  have hd1 : ¬ at_ < ya + ys := by have := hp _ HX1.out; simp only at this; omega
  have hd : ¬ xa < at_ + (u : Int) := by have := hm0 _ HX0.out; simp only at this; omega
  have hcx : ¬ xa < at_ := by have := insP_stop at_ (Q.map (·.1)) _ (by rw [HK.out]; exact HX0.out); simp only at this; omega
  have hw1 : IntKind.i64.wrap (at_ + (u : Int)) = at_ + (u : Int) := IntWalk.i64_in _ (by omega)
  have hw2 : IntKind.i64.wrap (ya + ys) = ya + ys := IntWalk.i64_in _ (by omega)
  have hj0 : (0 : Int) < ((j + 1 : Nat) : Int) := by omega
  have hj1 : IntKind.i64.wrap (((j + 1 : Nat) : Int) - 1) = (j : Int) := by rw [show ((j + 1 : Nat) : Int) - 1 = (j : Int) by omega]; exact IntWalk.i64_in _ (by omega)
  have hj2 : IntKind.i64.wrap ((j : Int) + 1 - 1) = (j : Int) := by rw [show (j : Int) + 1 - 1 = (j : Int) by omega]; exact IntWalk.i64_in _ (by omega)
  have hj4 : IntKind.i64.wrap (j : Int) = (j : Int) := IntWalk.i64_in _ (by omega)
  have hj3 : (0 : Int) < (j : Int) + 1 := by omega
  have hkM : ((j : Int) + 1).toNat = j + 1 := by omega
  have hkN : (0 : Int) ≤ (j : Int) + 1 := by omega
  have hjn : j < Q.length := by omega
  have hjl : (j : Int) < (Q.length : Int) := by omega
  have hkJ : (j : Int) + 1 < (Q.length : Int) := by omega
  have hkL : j + 1 < Q.length := by omega
  have HM := Lib.hid (R2.out (meets_none HK.out (fun j' x' h hx' => by obtain rfl : j' = j := (by omega); exact hp x' hx') (fun x hx => hm0 x hx)))
  clear hm0 hp
  go_enter Tryz.func63, Tryz.ntmps63
  go_wp2_with fail
  refine (C1.out _).mono ?_
  rintro e w1 ⟨rfl, rfl⟩
  go_wp2_with fail
  refine (C2.out _).mono ?_
  rintro e w1 ⟨rfl, rfl⟩
  go_wp2
  go_loop [10] (fun i => ∃ k : Nat, k ≤ (j + 1) ∧ i = .int .i64 k) (fun i => Q.length - (intOf i).toNat)
  case atStart => exact ⟨0, Nat.zero_le _, rfl⟩
  case round =>
    obtain ⟨k, hk, rfl⟩ := hrel
    by_cases hlt : k < (j + 1)
    · obtain ⟨q, hq⟩ : ∃ q, Q[k]? = some q := ⟨Q[k]'(by omega), List.getElem?_eq_getElem (by omega)⟩
      obtain ⟨g', hgg, hg', hcell⟩ := HR.out k q hq
      have hgg2 : g = g' := by simpa using hgg
      subst hgg2
      have hbf := insP_before at_ (Q.map (·.1)) k q.1 (by rw [List.getElem?_map, hq]; rfl) (by rw [HK.out]; exact hlt)
      have hkq : k < Q.length := by omega
      clear hq
      obtain ⟨⟨qa, qs, qp, qb⟩, qk, qc⟩ := q
      have e0 : w.cell? ⟨g, k * 4, none⟩ = some (.int .i64 qa) := hcell 0 _ rfl
      simp only at hbf
      clear hcell
      go_wp2
      go_round
      case rel => exact ⟨k + 1, by omega, by go_num⟩
      case measure => simp [intOf]; omega
    · obtain rfl : k = (j + 1) := by omega
      clear hk hlt
      go_wp2_with fail
      go_quiet (fail)
      go_wp2_with fail
      obtain ⟨W0, hW0⟩ : ∃ W0, w.drewN nq = W0 := ⟨_, rfl⟩
      have HS0 : Hid (Spc 59 74 W0 a (.slice (some ⟨g, 0, none⟩) Q.length cap) Q) := Lib.hid (hW0 ▸ HSP.out.keep (fun k _ => rfl))
      have HB0 : Hid (Below w.heap.size w W0) := Lib.hid (hW0 ▸ below_drewN (Below.refl _ _) _)
      rw [hW0]
      clear hW0
      have R : Hold a (.slice (some ⟨g, 0, none⟩) Q.length cap) W0 W0 := Hold.of HS0.out.box (Nat.le_refl _)
      have hmk : ∀ W : World, (Instr.makeSlice 38 (.int .i64 (u : Int)) (.int .i64 (u : Int))).run Tryz.prog W = .ok (.slice (some ⟨W.heap.size, 0, none⟩) u u) (W.alloc (.cells (madeCells #[.int .u8 0] u) 5)) := run_make_row' 38 5 (.int .u8 0) 1 Tryz.underlying38 cloneB_info rfl .i64 .i64 u (by omega) (by omega)
      obtain ⟨Z, hZ⟩ : ∃ Z, madeCells #[.int .u8 0] u = Z := ⟨_, rfl⟩
      rw [hZ] at hmk
      have HZ := Lib.hid hZ.symm; clear hZ
      have HI : Hid (∀ W : World, W.heap = ((W0.alloc (.cells Z 5)).alloc (.cells #[.int .i64 at_, .int .i64 u, .int .i64 p, .slice (some ⟨W0.heap.size, 0, none⟩) u u] 74)).heap → Calls Tryz.prog 76 #[.slice (some ⟨g, 0, none⟩) Q.length cap, .int .i64 (((j + 1 : Nat) : Int)), .slice (some ⟨W0.heap.size + 1, 0, none⟩) 1 1] W (Inserted W (.slice (some ⟨g, 0, none⟩) Q.length cap) (Q.length + 1) (putIn (Q.flatMap rgC) [.int .i64 at_, .int .i64 u, .int .i64 p, .slice (some ⟨W0.heap.size, 0, none⟩) u u] ((j + 1) * 4)))) := Lib.hid (fun W hW => by
        have hl : (zeros (u : Int)).length = u := by unfold zeros; simp
        have hr : rgC ((⟨at_, u, p, zeros u⟩, W0.heap.size, u) : RowP) = [.int .i64 at_, .int .i64 u, .int .i64 p, .slice (some ⟨W0.heap.size, 0, none⟩) u u] := by unfold rgC; simp only [hl]
        have h := insert_at HS0.out hqn (⟨at_, u, p, zeros u⟩, W0.heap.size, u) (j + 1) (by omega) Z W (by rw [hr]; exact hW)
        rw [hr] at h
        exact h)
      have HBX : Hid (∀ W w2 : World, Keeps (fun k => (.slice (some ⟨g, 0, none⟩) Q.length cap : Value).ownBlock = some k) W w2 → W.heap = ((W0.alloc (.cells Z 5)).alloc (.cells #[.int .i64 at_, .int .i64 u, .int .i64 p, .slice (some ⟨W0.heap.size, 0, none⟩) u u] 74)).heap → Blk w2 a 59 #[.slice (some ⟨g, 0, none⟩) Q.length cap]) := Lib.hid (fun W w2 hk hW => by
        refine Blk.keeps (w := W) ?_ hk (fun e => nodup_av HS0.out.nd e rfl)
        unfold Blk
        rw [hW]
        exact (HS0.out.box.alloc _).alloc _)
      have HCL : Hid (∀ (W w2 : World) (v' : Value), 
          w2.ownsRow 0 74 4 v' (Q.length + 1) (putIn (Q.flatMap rgC) [.int .i64 at_, .int .i64 u, .int .i64 p, .slice (some ⟨W0.heap.size, 0, none⟩) u u] ((j + 1) * 4)) → ((∃ g', (.slice (some ⟨g, 0, none⟩) Q.length cap : Value).ownBlock = some g' ∧ v'.ownBlock = some g') ∨ ∃ g', v'.ownBlock = some g' ∧ W.heap.size ≤ g') → Keeps (fun k => (.slice (some ⟨g, 0, none⟩) Q.length cap : Value).ownBlock = some k) W w2 →
          W.heap = ((W0.alloc (.cells Z 5)).alloc (.cells #[.int .i64 at_, .int .i64 u, .int .i64 p, .slice (some ⟨W0.heap.size, 0, none⟩) u u] 74)).heap → W.os = W0.os → W.tape = W0.tape → W.output = W0.output → SetsE a F res w (.returned (.int .i64 0)) (w2.setCell ⟨a, 0, none⟩ v')) := Lib.hid (fun W w2 v' e5 e6 e7 e1 e2 e3 e4 => by
        rw [HM.out, HK.out]
        exact mapAt_close HS0.out HB0.out HFF.out HZ.out (by unfold maxLen; omega) e1 e2 e3 e4 e5 e6 e7)
      clear HS0 HB0 HZ HM HK HO HFF HSP R1 R2 HPS HR C1 C2 x0 x1 y0 y1 HX0 HX1
      have cA : W0.cell? ⟨a, 0, none⟩ = some (.slice (some ⟨g, 0, none⟩) Q.length cap) := R.1 0
      have hA : a < W0.heap.size := R.2.2.1.lt
      clear R
      go_region_with (go_at_call 76; refine (HI.out _ ?_).mono ?_; exact rfl; rintro e w2 ⟨⟨v', rfl, hown, hblk⟩, hkp⟩; obtain ⟨A', c', rfl⟩ := owns_shape hown; have hB2 := HBX.out _ _ hkp rfl; have cA2 := hB2.cell 0; have fA2 := hB2.free 0)
      all_goals (go_wp2; go_ret; first | exact HCL.out _ _ _ hown hblk hkp rfl rfl rfl rfl | exact (HCL.out _ _ _ hown hblk hkp rfl rfl rfl rfl).drew)

end Go.Proofs.YtpenejigebkkmaaGreat
