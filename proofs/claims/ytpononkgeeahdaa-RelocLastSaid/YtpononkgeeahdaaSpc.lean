/-
  Layer 5: what part of the program computes: where a range stands.
  Conditions: none. (My own text.)
-/
import Derived.Test.YtpononkgeeahdaaSpb
import Derived.Laws.BitsAllLaws
namespace Go.Proofs.Ytpononkgeeahdaa
open Go.RowKit Spm
set_option linter.unusedVariables false
set_option linter.unusedSimpArgs false

/-- A range's slice. -/
def partV (Q : List RowP) (at_ : Int) (n : Nat) (p : Int) : Value :=
  match Q[partK (Q.map (·.1)) at_]? with
  | none => .slice none 0 0
  | some q => if partS (Q.map (·.1)) at_ n p = 0 then .slice (some ⟨q.2.1, (at_ - q.1.at_).toNat, none⟩) n (q.2.2 - (at_ - q.1.at_).toNat) else .slice none 0 0

theorem partV_none {Q : List RowP} {at_ : Int} {n : Nat} {p : Int} (h : Q.length ≤ partK (Q.map (·.1)) at_) : partV Q at_ n p = .slice none 0 0 := by
  unfold partV; rw [List.getElem?_eq_none h]
theorem partV_bad {Q : List RowP} {at_ : Int} {n : Nat} {p : Int} (h : partS (Q.map (·.1)) at_ n p ≠ 0) : partV Q at_ n p = .slice none 0 0 := by
  unfold partV; split
  · rfl
  · exact if_neg h
theorem partV_ok {Q : List RowP} {at_ : Int} {n : Nat} {p : Int} {q : RowP} (hq : Q[partK (Q.map (·.1)) at_]? = some q) (h : partS (Q.map (·.1)) at_ n p = 0) :
    partV Q at_ n p = .slice (some ⟨q.2.1, (at_ - q.1.at_).toNat, none⟩) n (q.2.2 - (at_ - q.1.at_).toNat) := by
  unfold partV; rw [hq]; exact if_pos h

/-- A permission that may be asked for. -/
def OneP (p : Int) : Prop := p = 0 ∨ p = 1 ∨ p = 2 ∨ p = 4
theorem ret_si {x y : Value} {k : IntKind} {c d : Int} (h : x = y) (h' : c = d) : Ending.returned (.tuple #[y, .int k d]) = .returned (.tuple #[x, .int k c]) := by rw [h, h']
theorem has_bits (pm p : Int) (h0 : 0 ≤ pm) (h7 : pm ≤ 7) (hp : OneP p) : (bits BinOp.and IntKind.i64 pm p == p) = has pm p := by
  have h : pm = 0 ∨ pm = 1 ∨ pm = 2 ∨ pm = 3 ∨ pm = 4 ∨ pm = 5 ∨ pm = 6 ∨ pm = 7 := by omega
  rcases h with rfl | rfl | rfl | rfl | rfl | rfl | rfl | rfl <;> rcases hp with rfl | rfl | rfl | rfl <;> decide +kernel

theorem inside_ff {at_ : Int} {r : Rg} (h : at_ < r.at_) : inside at_ r = false := by unfold inside; simp; omega
theorem inside_ft {at_ : Int} {r : Rg} (h : r.sz ≤ at_ - r.at_) : inside at_ r = false := by unfold inside; simp; omega
theorem inside_tt {at_ : Int} {r : Rg} (h : r.at_ ≤ at_) (h2 : at_ - r.at_ < r.sz) : inside at_ r = true := by unfold inside; simp; omega

set_option maxHeartbeats 2000000 in
set_option maxRecDepth 100000 in
theorem part_any (a : Nat) (v : Value) (Q : List RowP) (hok : Ok (Q.map (·.1))) (at_ : Int) (hat : at_ ≤ 9223372036854775807) (n : Nat) (hn1 : 1 ≤ n) (hn2 : n ≤ 1048576) (p : Int) (hp : OneP p) (w : World) (hs : Spc 61 67 w a v Q) :
    Calls Try.prog 46 #[.pointer (some ⟨a, 0, none⟩), .int .i64 at_, .int .i64 n, .int .i64 p] w fun e w' =>
    e = .returned (.tuple #[partV Q at_ n p, .int .i64 (partS (Q.map (·.1)) at_ n p)]) ∧ Below w.heap.size w w' := by
  obtain ⟨A, cap, rfl, hc0, hcap, hm, hrow⟩ := hs.cells
  have HR := Lib.hid hrow; clear hrow
  have hbox := hs.box.lt
  have HS := Lib.hid (fun q (hq : q ∈ Q) => hs.bys hq); clear hs
  unfold maxLen at hm
  have HO := Lib.hid hok; clear hok
  have HPP := Lib.hid hp; clear hp
  go_enter Try.func46, Try.ntmps46
  go_wp2
  go_loopw [17] (fun i wr => ∃ k : Nat, k ≤ Q.length ∧ i = .int .i64 k ∧ Hid (k ≤ partK (Q.map (·.1)) at_) ∧ Below w.heap.size w wr) (fun i _ => Q.length - (intOf i).toNat)
  case atStart => exact ⟨0, Nat.zero_le _, rfl, Lib.hid (Nat.zero_le _), Below.refl _ _⟩
  case round =>
    obtain ⟨k, hk, rfl, hf, hbel⟩ := hrel
    by_cases hlt : k < Q.length
    · obtain ⟨q, hq⟩ : ∃ q, Q[k]? = some q := ⟨Q[k], List.getElem?_eq_getElem hlt⟩
      obtain ⟨g, rfl, hg, hcell⟩ := HR.out k q hq
      have hx : (Q.map (·.1))[k]? = some q.1 := by rw [List.getElem?_map, hq]; rfl
      have HX := Lib.hid hx; clear hx
      have HQ := Lib.hid hq; clear hq
      obtain ⟨⟨qa, qs, qp, qb⟩, qk, qc⟩ := q
      have c0 : wr.cell? ⟨g, k * 4, none⟩ = some (.int .i64 qa) := (hbel.cell (p := ⟨g, k * 4, none⟩) hg).trans (hcell 0 _ rfl)
      have c1 : wr.cell? ⟨g, k * 4 + 1, none⟩ = some (.int .i64 qs) := (hbel.cell (p := ⟨g, k * 4 + 1, none⟩) hg).trans (hcell 1 _ rfl)
      have c2 : wr.cell? ⟨g, k * 4 + 2, none⟩ = some (.int .i64 qp) := (hbel.cell (p := ⟨g, k * 4 + 2, none⟩) hg).trans (hcell 2 _ rfl)
      have c3 : wr.cell? ⟨g, k * 4 + 3, none⟩ = some (.slice (some ⟨qk, 0, none⟩) qb.length qc) := (hbel.cell (p := ⟨g, k * 4 + 3, none⟩) hg).trans (hcell 3 _ rfl)
      clear hcell
      have hrg := HO.out.each _ (List.mem_of_getElem? HX.out)
      have rlo := hrg.lo
      have rhi := hrg.hi
      have rsz := hrg.slo
      have rln := hrg.len
      have rp := has_bits qp p hrg.p0 hrg.p7 HPP.out
      have hqc := (HS.out _ (List.mem_of_getElem? HQ.out)).2.1
      have hqm := (HS.out _ (List.mem_of_getElem? HQ.out)).2.2.1
      unfold maxLen at hqm
      simp only at rlo rhi rsz rln hqc hqm
      have HLN := Lib.hid rln; clear rln hrg
      have HRP := Lib.hid rp; clear rp
      have hcr := (hbel.cell (p := ⟨a, 0, none⟩) hbox).trans hc0
      have HBD := Lib.hid (fun m => below_drewN hbel m)
      have HB := Lib.hid hbel; clear hbel
      by_cases h1 : at_ < qa
      · have HN : Hid (k + 1 ≤ partK (Q.map (·.1)) at_) := Lib.hid (findIdx_miss hf.out HX.out (inside_ff h1))
        go_wp2_with fail
        go_quiet (fail)
        go_wp2
        go_roundw
        case rel => exact ⟨k + 1, by omega, by go_num, HN, HBD.out _⟩
        case measure => simp [intOf]; omega
      · obtain ⟨o, ho⟩ : ∃ o : Nat, at_ = qa + (o : Int) := ⟨(at_ - qa).toNat, by omega⟩
        subst ho
        have hw1 : IntKind.i64.wrap (qa + (o : Int) - qa) = (o : Int) := by rw [show qa + (o : Int) - qa = o by omega]; exact IntWalk.i64_in _ (by omega)
        by_cases h2 : qs ≤ (o : Int)
        · have HN : Hid (k + 1 ≤ partK (Q.map (·.1)) (qa + (o : Int))) := Lib.hid (findIdx_miss hf.out HX.out (inside_ft (by simp only; omega)))
          go_wp2_with fail
          go_quiet (fail)
          go_wp2
          go_roundw
          case rel => exact ⟨k + 1, by omega, by go_num, HN, HBD.out _⟩
          case measure => simp [intOf]; omega
        · have HK : Hid (partK (Q.map (·.1)) (qa + (o : Int)) = k) := Lib.hid (findIdx_hit hf.out HX.out (inside_tt (by simp only; omega) (by simp only; omega)))
          have HPS : Hid (partS (Q.map (·.1)) (qa + (o : Int)) n p = if qs - (qa + (o : Int) - qa) < n then 50 else if has qp p = false then 52 else 0) := Lib.hid (partS_some (by rw [HK.out]; exact HX.out))
          have hw2 : IntKind.i64.wrap (qs - (o : Int)) = qs - (o : Int) := IntWalk.i64_in _ (by omega)
          by_cases h3 : qs - (o : Int) < n
          · have HE : Hid (partS (Q.map (·.1)) (qa + (o : Int)) n p = 50) := Lib.hid (by rw [HPS.out]; exact if_pos (by omega))
            have HVV : Hid (partV Q (qa + (o : Int)) n p = .slice none 0 0) := Lib.hid (partV_bad (by rw [HE.out]; decide))
            go_wp2_with fail
            go_quiet (fail)
            go_wp2_with fail
            go_quiet (fail)
            go_wp2
            go_ret2
            first | exact ⟨ret_si HVV.out HE.out, HBD.out _⟩ | exact ⟨ret_si HVV.out HE.out, below_drewN (HBD.out _) _⟩
          · cases h4 : has qp p
            · have HE : Hid (partS (Q.map (·.1)) (qa + (o : Int)) n p = 52) := Lib.hid (by rw [HPS.out, if_neg (by omega), if_pos h4])
              have HVV : Hid (partV Q (qa + (o : Int)) n p = .slice none 0 0) := Lib.hid (partV_bad (by rw [HE.out]; decide))
              have hb := HRP.out
              rw [h4] at hb
              have hb2 : (bits BinOp.and IntKind.i64 qp p != p) = true := by simp only [bne, hb]; rfl
              clear h4
              go_wp2_with fail
              go_quiet (fail)
              go_wp2_with fail
              go_quiet (fail)
              go_wp2
              go_ret2
              first | exact ⟨ret_si HVV.out HE.out, HBD.out _⟩ | exact ⟨ret_si HVV.out HE.out, below_drewN (HBD.out _) _⟩
            · have HE : Hid (partS (Q.map (·.1)) (qa + (o : Int)) n p = 0) := Lib.hid (by rw [HPS.out, if_neg (by omega), if_neg (by rw [h4]; decide)])
              have HVV : Hid (partV Q (qa + (o : Int)) n p = .slice (some ⟨qk, o, none⟩) n (qc - o)) := Lib.hid (by rw [partV_ok (by rw [HK.out]; exact HQ.out) HE.out]; simp only; congr 3 <;> omega)
              have hb := HRP.out
              rw [h4] at hb
              have hb2 : (bits BinOp.and IntKind.i64 qp p != p) = false := by simp only [bne, hb]; rfl
              clear h4
              have hol : o + n ≤ qb.length := by have := HLN.out; omega
              have hoc : o + n ≤ qc := by omega
              have hne : ¬ qc = o := by omega
              have hw3 : IntKind.i64.wrap ((o : Int) + (n : Int)) = (o : Int) + (n : Int) := IntWalk.i64_in _ (by omega)
              have hw4 : ((o : Int) + (n : Int)).toNat = o + n := by omega
              have hw5 : (0 : Int) ≤ (o : Int) + (n : Int) := by omega
              go_wp2_with fail
              go_quiet (fail)
              go_wp2_with fail
              go_quiet (fail)
              go_wp2_with fail
              go_quiet (fail)
              go_wp2
              go_ret2
              first | exact ⟨ret_si HVV.out HE.out, HBD.out _⟩ | exact ⟨ret_si HVV.out HE.out, below_drewN (HBD.out _) _⟩
    · have hk' : Q.length ≤ partK (Q.map (·.1)) at_ := by have := hf.out; omega
      have HE : Hid (partS (Q.map (·.1)) at_ n p = 50) := Lib.hid (partS_none (by simpa using hk'))
      have HVV : Hid (partV Q at_ n p = .slice none 0 0) := Lib.hid (partV_none hk')
      clear hk'
      go_wp2
      go_ret2
      exact ⟨ret_si HVV.out HE.out, hbel⟩
end Go.Proofs.Ytpononkgeeahdaa
