/-
  Layer 5: MapAt of the program, a way through it.
  Layer 5: MapAt of the program, a way through it.
  Layer 5: MapAt of the program, a way through it.
  Conditions: none. (My own text.)
-/
import Derived.Test.YtpenejigebkkmaaGreatSp3
import Derived.Deep.RegionWith
namespace Go.Proofs.YtpenejigebkkmaaGreat
open Go.RowKit Spm
set_option linter.unusedVariables false
set_option linter.unusedSimpArgs false

set_option maxHeartbeats 4000000 in
set_option maxRecDepth 100000 in
theorem mapAt_m1 (a : Nat) (v : Value) (Q : List RowP) (F : Nat → Prop) (hok : Ok (Q.map (·.1))) (at_ size p : Int) (hr : right size p = 0) (hb : ¬ atBad at_ size) (w : World) (hs : Spc 59 74 w a v Q) (hF : ∀ k ∈ foot a v Q, F k) (hK : insP at_ (Q.map (·.1)) = 0) (hn : 0 < Q.length) (hm0 : ∀ x, (Q.map (·.1))[0]? = some x → x.at_ < at_ + up size) :
    Calls Tryz.prog 63 #[.pointer (some ⟨a, 0, none⟩), .int .i64 at_, .int .i64 size, .int .i64 p] w (SetsE a F (mapAtS (Q.map (·.1)) at_ size p) w) := by
  have c1 := fun w => right_any size p w
  rw [hr] at c1
  have C1 := Lib.hid c1
  have HPS : Hid (PSp w a F (Q.map (·.1))) := Lib.hid ⟨v, Q, hs, rfl, hF⟩
  obtain ⟨z1, z2, z3, z4⟩ := right_eq hr
  have C2 := Lib.hid (fun w => up_any size z1 z2 w)
  have hU := up_ge size z1
  have hU2 := up_le size z1 z2
  have R1 : Hid (meets (Q.map (·.1)) at_ (up size) = true → mapAtS (Q.map (·.1)) at_ size p = (Q.map (·.1), 51)) := Lib.hid (mapAtS_m hr hb)
  have R2 : Hid (meets (Q.map (·.1)) at_ (up size) = false → mapAtS (Q.map (·.1)) at_ size p = ((Q.map (·.1)).take (insP at_ (Q.map (·.1))) ++ ⟨at_, up size, p, zeros (up size)⟩ :: (Q.map (·.1)).drop (insP at_ (Q.map (·.1))), 0)) := Lib.hid (mapAtS_ok hr hb)
  unfold atBad at hb
  generalize mapAtS (Q.map (·.1)) at_ size p = res at R1 R2 ⊢
  generalize up size = U at C2 hU hU2 hb R1 R2 hm0
  obtain ⟨_, _, hU1, _⟩ := hU
  obtain ⟨u, rfl⟩ : ∃ u : Nat, U = (u : Int) := ⟨U.toNat, by omega⟩
  have h1 : ¬ at_ < 4096 := by omega
  have h2 : at_ % 64 = 0 := by omega
  have h3 : ¬ 4294967296 - (u : Int) < at_ := by omega
  obtain ⟨A, cap, rfl, hc0, hcap, hm, hrow⟩ := hs.cells
  have HR := Lib.hid hrow; clear hrow
  have hbox := hs.box.lt
  have HSP := Lib.hid hs; clear hs
  have HFF := Lib.hid hF; clear hF
  have HK := Lib.hid hK; clear hK
  have HO := Lib.hid hok
  have hqn : Q.length ≤ 67108864 := by have := hok.len; simp at this; omega
  unfold maxLen at hm
  clear c1 hr hb z1 z2 hok
  obtain ⟨x, hx⟩ : ∃ x, Q[0]? = some x := ⟨Q[0]'(by omega), List.getElem?_eq_getElem (by omega)⟩
  obtain ⟨g, rfl, hg, hcell⟩ := HR.out (0) x hx
  have hx1 : (Q.map (·.1))[0]? = some x.1 := by rw [List.getElem?_map, hx]; rfl
  have HX0 := Lib.hid hx1; clear hx1 hx
  obtain ⟨⟨xa, xs, xp, xb⟩, xk, xc⟩ := x
  have x0 : w.cell? ⟨g, 0 * 4, none⟩ = some (.int .i64 xa) := hcell 0 _ rfl
  have x1 : w.cell? ⟨g, 0 * 4 + 1, none⟩ = some (.int .i64 xs) := hcell 1 _ rfl
  have hrg := HO.out.each _ (List.mem_of_getElem? HX0.out)
  have xlo := hrg.lo
  have xhi := hrg.hi
  have xsl := hrg.slo
  simp only at xlo xhi xsl
  clear hrg hcell
  have hd : xa < at_ + (u : Int) := hm0 _ HX0.out
  have hcx : ¬ xa < at_ := by have := insP_stop at_ (Q.map (·.1)) _ (by rw [HK.out]; exact HX0.out); simp only at this; omega
  have hw1 : IntKind.i64.wrap (at_ + (u : Int)) = at_ + (u : Int) := IntWalk.i64_in _ (by omega)
  have HM := Lib.hid (R1.out (meets_next HK.out HX0.out hd))
  clear hm0
  go_enter Tryz.func63, Tryz.ntmps63
  go_wp2_with fail
  refine (C1.out _).mono ?_
  rintro e w1 ⟨rfl, rfl⟩
  go_wp2_with fail
  refine (C2.out _).mono ?_
  rintro e w1 ⟨rfl, rfl⟩
  go_wp2
  go_loop [10] (fun i => ∃ k : Nat, k ≤ 0 ∧ i = .int .i64 k) (fun i => Q.length - (intOf i).toNat)
  case atStart => exact ⟨0, Nat.zero_le _, rfl⟩
  case round =>
    obtain ⟨k, hk, rfl⟩ := hrel
    by_cases hlt : k < 0
    · omega
    · obtain rfl : k = 0 := by omega
      clear hk hlt
      go_wp2_with fail
      go_quiet (fail)
      go_wp2
      go_ret
      rw [HM.out]
      exact SetsE.same HPS.out (below_drewN (Below.refl _ _) _)

end Go.Proofs.YtpenejigebkkmaaGreat

namespace Go.Proofs.YtpenejigebkkmaaGreat
open Go.RowKit Spm
set_option linter.unusedVariables false
set_option linter.unusedSimpArgs false

set_option maxHeartbeats 4000000 in
set_option maxRecDepth 100000 in
theorem mapAt_m2a (j : Nat) (a : Nat) (v : Value) (Q : List RowP) (F : Nat → Prop) (hok : Ok (Q.map (·.1))) (at_ size p : Int) (hr : right size p = 0) (hb : ¬ atBad at_ size) (w : World) (hs : Spc 59 74 w a v Q) (hF : ∀ k ∈ foot a v Q, F k) (hK : insP at_ (Q.map (·.1)) = (j + 1)) (hn : j + 1 < Q.length) (hp : ∀ x, (Q.map (·.1))[j]? = some x → at_ < x.at_ + x.sz) :
    Calls Tryz.prog 63 #[.pointer (some ⟨a, 0, none⟩), .int .i64 at_, .int .i64 size, .int .i64 p] w (SetsE a F (mapAtS (Q.map (·.1)) at_ size p) w) := by
  have c1 := fun w => right_any size p w
  rw [hr] at c1
  have C1 := Lib.hid c1
  have HPS : Hid (PSp w a F (Q.map (·.1))) := Lib.hid ⟨v, Q, hs, rfl, hF⟩
  obtain ⟨z1, z2, z3, z4⟩ := right_eq hr
  have C2 := Lib.hid (fun w => up_any size z1 z2 w)
  have hU := up_ge size z1
  have hU2 := up_le size z1 z2
  have R1 : Hid (meets (Q.map (·.1)) at_ (up size) = true → mapAtS (Q.map (·.1)) at_ size p = (Q.map (·.1), 51)) := Lib.hid (mapAtS_m hr hb)
  have R2 : Hid (meets (Q.map (·.1)) at_ (up size) = false → mapAtS (Q.map (·.1)) at_ size p = ((Q.map (·.1)).take (insP at_ (Q.map (·.1))) ++ ⟨at_, up size, p, zeros (up size)⟩ :: (Q.map (·.1)).drop (insP at_ (Q.map (·.1))), 0)) := Lib.hid (mapAtS_ok hr hb)
  unfold atBad at hb
  generalize mapAtS (Q.map (·.1)) at_ size p = res at R1 R2 ⊢
  generalize up size = U at C2 hU hU2 hb R1 R2 
  obtain ⟨_, _, hU1, _⟩ := hU
  obtain ⟨u, rfl⟩ : ∃ u : Nat, U = (u : Int) := ⟨U.toNat, by omega⟩
  have h1 : ¬ at_ < 4096 := by omega
  have h2 : at_ % 64 = 0 := by omega
  have h3 : ¬ 4294967296 - (u : Int) < at_ := by omega
  obtain ⟨A, cap, rfl, hc0, hcap, hm, hrow⟩ := hs.cells
  have HR := Lib.hid hrow; clear hrow
  have hbox := hs.box.lt
  have HSP := Lib.hid hs; clear hs
  have HFF := Lib.hid hF; clear hF
  have HK := Lib.hid hK; clear hK
  have HO := Lib.hid hok
  have hqn : Q.length ≤ 67108864 := by have := hok.len; simp at this; omega
  unfold maxLen at hm
  clear c1 hr hb z1 z2 hok
  obtain ⟨x, hx⟩ : ∃ x, Q[j]? = some x := ⟨Q[j]'(by omega), List.getElem?_eq_getElem (by omega)⟩
  obtain ⟨g, rfl, hg, hcell⟩ := HR.out (j) x hx
  have hx1 : (Q.map (·.1))[j]? = some x.1 := by rw [List.getElem?_map, hx]; rfl
  have HX1 := Lib.hid hx1; clear hx1 hx
  obtain ⟨⟨ya, ys, yp, yb⟩, yk, yc⟩ := x
  have y0 : w.cell? ⟨g, j * 4, none⟩ = some (.int .i64 ya) := hcell 0 _ rfl
  have y1 : w.cell? ⟨g, j * 4 + 1, none⟩ = some (.int .i64 ys) := hcell 1 _ rfl
  have hrg := HO.out.each _ (List.mem_of_getElem? HX1.out)
  have ylo := hrg.lo
  have yhi := hrg.hi
  have ysl := hrg.slo
  simp only at ylo yhi ysl
  clear hrg hcell
  obtain ⟨x, hx⟩ : ∃ x, Q[j + 1]? = some x := ⟨Q[j + 1]'(by omega), List.getElem?_eq_getElem (by omega)⟩
  obtain ⟨g', hgg, _, hcell⟩ := HR.out (j + 1) x hx
  have hgg2 : g = g' := by simpa using hgg
  subst hgg2
  clear hgg
  have hx1 : (Q.map (·.1))[j + 1]? = some x.1 := by rw [List.getElem?_map, hx]; rfl
  have HX0 := Lib.hid hx1; clear hx1 hx
  obtain ⟨⟨xa, xs, xp, xb⟩, xk, xc⟩ := x
  have x0 : w.cell? ⟨g, (j + 1) * 4, none⟩ = some (.int .i64 xa) := hcell 0 _ rfl
  have x1 : w.cell? ⟨g, (j + 1) * 4 + 1, none⟩ = some (.int .i64 xs) := hcell 1 _ rfl
  have hrg := HO.out.each _ (List.mem_of_getElem? HX0.out)
  have xlo := hrg.lo
  have xhi := hrg.hi
  have xsl := hrg.slo
  simp only at xlo xhi xsl
  clear hrg hcell
  have hd1 : at_ < ya + ys := hp _ HX1.out
  have hcx : ¬ xa < at_ := by have := insP_stop at_ (Q.map (·.1)) _ (by rw [HK.out]; exact HX0.out); simp only at this; omega
  have hw2 : IntKind.i64.wrap (ya + ys) = ya + ys := IntWalk.i64_in _ (by omega)
  have hj0 : (0 : Int) < ((j + 1 : Nat) : Int) := by omega
  have hj1 : IntKind.i64.wrap (((j + 1 : Nat) : Int) - 1) = (j : Int) := by rw [show ((j + 1 : Nat) : Int) - 1 = (j : Int) by omega]; exact IntWalk.i64_in _ (by omega)
  have hj2 : IntKind.i64.wrap ((j : Int) + 1 - 1) = (j : Int) := by rw [show (j : Int) + 1 - 1 = (j : Int) by omega]; exact IntWalk.i64_in _ (by omega)
  have hj4 : IntKind.i64.wrap (j : Int) = (j : Int) := IntWalk.i64_in _ (by omega)
  have hj3 : (0 : Int) < (j : Int) + 1 := by omega
  have hkM : ((j : Int) + 1).toNat = j + 1 := by omega
  have hkN : (0 : Int) ≤ (j : Int) + 1 := by omega
  have hjn : j < Q.length := by omega
  have hjl : (j : Int) < (Q.length : Int) := by omega
  have hkJ : (j : Int) + 1 < (Q.length : Int) := by omega
  have hkL : j + 1 < Q.length := by omega
  have HM := Lib.hid (R1.out (meets_no_prev HK.out HX1.out hd1))
  clear hp
  go_enter Tryz.func63, Tryz.ntmps63
  go_wp2_with fail
  refine (C1.out _).mono ?_
  rintro e w1 ⟨rfl, rfl⟩
  go_wp2_with fail
  refine (C2.out _).mono ?_
  rintro e w1 ⟨rfl, rfl⟩
  go_wp2
  go_loop [10] (fun i => ∃ k : Nat, k ≤ (j + 1) ∧ i = .int .i64 k) (fun i => Q.length - (intOf i).toNat)
  case atStart => exact ⟨0, Nat.zero_le _, rfl⟩
  case round =>
    obtain ⟨k, hk, rfl⟩ := hrel
    by_cases hlt : k < (j + 1)
    · obtain ⟨q, hq⟩ : ∃ q, Q[k]? = some q := ⟨Q[k]'(by omega), List.getElem?_eq_getElem (by omega)⟩
      obtain ⟨g', hgg, hg', hcell⟩ := HR.out k q hq
      have hgg2 : g = g' := by simpa using hgg
      subst hgg2
      have hbf := insP_before at_ (Q.map (·.1)) k q.1 (by rw [List.getElem?_map, hq]; rfl) (by rw [HK.out]; exact hlt)
      have hkq : k < Q.length := by omega
      clear hq
      obtain ⟨⟨qa, qs, qp, qb⟩, qk, qc⟩ := q
      have e0 : w.cell? ⟨g, k * 4, none⟩ = some (.int .i64 qa) := hcell 0 _ rfl
      simp only at hbf
      clear hcell
      go_wp2
      go_round
      case rel => exact ⟨k + 1, by omega, by go_num⟩
      case measure => simp [intOf]; omega
    · obtain rfl : k = (j + 1) := by omega
      clear hk hlt
      go_wp2_with fail
      go_quiet (fail)
      go_wp2
      go_ret
      rw [HM.out]
      exact SetsE.same HPS.out (below_drewN (Below.refl _ _) _)

end Go.Proofs.YtpenejigebkkmaaGreat

namespace Go.Proofs.YtpenejigebkkmaaGreat
open Go.RowKit Spm
set_option linter.unusedVariables false
set_option linter.unusedSimpArgs false

set_option maxHeartbeats 4000000 in
set_option maxRecDepth 100000 in
theorem mapAt_m2b (j : Nat) (a : Nat) (v : Value) (Q : List RowP) (F : Nat → Prop) (hok : Ok (Q.map (·.1))) (at_ size p : Int) (hr : right size p = 0) (hb : ¬ atBad at_ size) (w : World) (hs : Spc 59 74 w a v Q) (hF : ∀ k ∈ foot a v Q, F k) (hK : insP at_ (Q.map (·.1)) = (j + 1)) (hn : j + 1 = Q.length) (hp : ∀ x, (Q.map (·.1))[j]? = some x → at_ < x.at_ + x.sz) :
    Calls Tryz.prog 63 #[.pointer (some ⟨a, 0, none⟩), .int .i64 at_, .int .i64 size, .int .i64 p] w (SetsE a F (mapAtS (Q.map (·.1)) at_ size p) w) := by
  have c1 := fun w => right_any size p w
  rw [hr] at c1
  have C1 := Lib.hid c1
  have HPS : Hid (PSp w a F (Q.map (·.1))) := Lib.hid ⟨v, Q, hs, rfl, hF⟩
  obtain ⟨z1, z2, z3, z4⟩ := right_eq hr
  have C2 := Lib.hid (fun w => up_any size z1 z2 w)
  have hU := up_ge size z1
  have hU2 := up_le size z1 z2
  have R1 : Hid (meets (Q.map (·.1)) at_ (up size) = true → mapAtS (Q.map (·.1)) at_ size p = (Q.map (·.1), 51)) := Lib.hid (mapAtS_m hr hb)
  have R2 : Hid (meets (Q.map (·.1)) at_ (up size) = false → mapAtS (Q.map (·.1)) at_ size p = ((Q.map (·.1)).take (insP at_ (Q.map (·.1))) ++ ⟨at_, up size, p, zeros (up size)⟩ :: (Q.map (·.1)).drop (insP at_ (Q.map (·.1))), 0)) := Lib.hid (mapAtS_ok hr hb)
  unfold atBad at hb
  generalize mapAtS (Q.map (·.1)) at_ size p = res at R1 R2 ⊢
  generalize up size = U at C2 hU hU2 hb R1 R2 
  obtain ⟨_, _, hU1, _⟩ := hU
  obtain ⟨u, rfl⟩ : ∃ u : Nat, U = (u : Int) := ⟨U.toNat, by omega⟩
  have h1 : ¬ at_ < 4096 := by omega
  have h2 : at_ % 64 = 0 := by omega
  have h3 : ¬ 4294967296 - (u : Int) < at_ := by omega
  obtain ⟨A, cap, rfl, hc0, hcap, hm, hrow⟩ := hs.cells
  have HR := Lib.hid hrow; clear hrow
  have hbox := hs.box.lt
  have HSP := Lib.hid hs; clear hs
  have HFF := Lib.hid hF; clear hF
  have HK := Lib.hid hK; clear hK
  have HO := Lib.hid hok
  have hqn : Q.length ≤ 67108864 := by have := hok.len; simp at this; omega
  unfold maxLen at hm
  clear c1 hr hb z1 z2 hok
  have HN := Lib.hid hn
  obtain ⟨x, hx⟩ : ∃ x, Q[j]? = some x := ⟨Q[j]'(by omega), List.getElem?_eq_getElem (by omega)⟩
  obtain ⟨g, rfl, hg, hcell⟩ := HR.out (j) x hx
  have hx1 : (Q.map (·.1))[j]? = some x.1 := by rw [List.getElem?_map, hx]; rfl
  have HX1 := Lib.hid hx1; clear hx1 hx
  obtain ⟨⟨ya, ys, yp, yb⟩, yk, yc⟩ := x
  have y0 : w.cell? ⟨g, j * 4, none⟩ = some (.int .i64 ya) := hcell 0 _ rfl
  have y1 : w.cell? ⟨g, j * 4 + 1, none⟩ = some (.int .i64 ys) := hcell 1 _ rfl
  have hrg := HO.out.each _ (List.mem_of_getElem? HX1.out)
  have ylo := hrg.lo
  have yhi := hrg.hi
  have ysl := hrg.slo
  simp only at ylo yhi ysl
  clear hrg hcell
  have hd1 : at_ < ya + ys := hp _ HX1.out
  have hw2 : IntKind.i64.wrap (ya + ys) = ya + ys := IntWalk.i64_in _ (by omega)
  have hj0 : (0 : Int) < ((j + 1 : Nat) : Int) := by omega
  have hj1 : IntKind.i64.wrap (((j + 1 : Nat) : Int) - 1) = (j : Int) := by rw [show ((j + 1 : Nat) : Int) - 1 = (j : Int) by omega]; exact IntWalk.i64_in _ (by omega)
  have hj2 : IntKind.i64.wrap ((j : Int) + 1 - 1) = (j : Int) := by rw [show (j : Int) + 1 - 1 = (j : Int) by omega]; exact IntWalk.i64_in _ (by omega)
  have hj4 : IntKind.i64.wrap (j : Int) = (j : Int) := IntWalk.i64_in _ (by omega)
  have hj3 : (0 : Int) < (j : Int) + 1 := by omega
  have hkM : ((j : Int) + 1).toNat = j + 1 := by omega
  have hkN : (0 : Int) ≤ (j : Int) + 1 := by omega
  have hjn : j < Q.length := by omega
  have hjl : (j : Int) < (Q.length : Int) := by omega
  have hjq : ¬ j + 1 < Q.length := by omega
  have hjq2 : ¬ (j : Int) + 1 < (Q.length : Int) := by omega
  have hjq3 : decide ((j : Int) + 1 < (Q.length : Int)) = false := by simp; omega
  have hjq4 : decide (j + 1 < Q.length) = false := by simp; omega
  have hjq5 : decide (((j + 1 : Nat) : Int) < (Q.length : Int)) = false := by simp; omega
  have HM := Lib.hid (R1.out (meets_no_prev HK.out HX1.out hd1))
  have hkq1 : j + 1 ≤ Q.length := by omega
  clear hp hn
  go_enter Tryz.func63, Tryz.ntmps63
  go_wp2_with fail
  refine (C1.out _).mono ?_
  rintro e w1 ⟨rfl, rfl⟩
  go_wp2_with fail
  refine (C2.out _).mono ?_
  rintro e w1 ⟨rfl, rfl⟩
  go_wp2
  go_loop [10] (fun i => ∃ k : Nat, k ≤ (j + 1) ∧ i = .int .i64 k) (fun i => Q.length - (intOf i).toNat)
  case atStart => exact ⟨0, Nat.zero_le _, rfl⟩
  case round =>
    obtain ⟨k, hk, rfl⟩ := hrel
    by_cases hlt : k < (j + 1)
    · obtain ⟨q, hq⟩ : ∃ q, Q[k]? = some q := ⟨Q[k]'(by omega), List.getElem?_eq_getElem (by omega)⟩
      obtain ⟨g', hgg, hg', hcell⟩ := HR.out k q hq
      have hgg2 : g = g' := by simpa using hgg
      subst hgg2
      have hbf := insP_before at_ (Q.map (·.1)) k q.1 (by rw [List.getElem?_map, hq]; rfl) (by rw [HK.out]; exact hlt)
      have hkq : k < Q.length := by omega
      clear hq
      obtain ⟨⟨qa, qs, qp, qb⟩, qk, qc⟩ := q
      have e0 : w.cell? ⟨g, k * 4, none⟩ = some (.int .i64 qa) := hcell 0 _ rfl
      simp only at hbf
      clear hcell
      go_wp2
      go_round
      case rel => exact ⟨k + 1, by omega, by go_num⟩
      case measure => simp [intOf]; omega
    · obtain rfl : k = (j + 1) := by omega
      clear hk hlt
      go_wp2_with fail
      go_quiet (fail)
      go_wp2
      go_ret
      rw [HM.out]
      exact SetsE.same HPS.out (below_drewN (Below.refl _ _) _)

end Go.Proofs.YtpenejigebkkmaaGreat
