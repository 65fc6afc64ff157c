/-
  Layer 5: what Gap of the program computes.
  Conditions: none. (My own text.)
-/
import Derived.Test.YtpononkgeeahdaaSpa
import Derived.Deep.QuietTactic
import Derived.BigQuiet
namespace Go.Proofs.Ytpononkgeeahdaa
open Go.RowKit Spm
set_option linter.unusedVariables false
set_option linter.unusedSimpArgs false

theorem max_if (a b : Int) : (if a < b then b else a) = max a b := by split <;> omega
theorem gapGo_cons (n : Int) (r : Rg) (L : List Rg) (x : Int) : gapGo n (r :: L) x = if n ≤ r.at_ - x then x else gapGo n L (max x (r.at_ + r.sz)) := rfl
theorem gapGo_at {n : Int} {L : List Rg} {k : Nat} {r : Rg} {x y : Int} (h : gapGo n (L.drop k) x = y) (hr : L[k]? = some r) : (n ≤ r.at_ - x → y = x) ∧ (¬ n ≤ r.at_ - x → gapGo n (L.drop (k + 1)) (max x (r.at_ + r.sz)) = y) := by
  have hl := (List.getElem?_eq_some_iff.1 hr).1
  have he := (List.getElem?_eq_some_iff.1 hr).2
  rw [List.drop_eq_getElem_cons hl, he, gapGo_cons] at h
  exact ⟨fun hc => by rw [if_pos hc] at h; exact h.symm, fun hc => by rw [if_neg hc] at h; exact h⟩

theorem gap_arg (a : Nat) (size : Int) (hz : size < 1 ∨ 1048576 < size) (w : World) : Calls Try.prog 57 #[.pointer (some ⟨a, 0, none⟩), .int .i64 size] w fun e w' =>
    e = .returned (.tuple #[.int .i64 0, .int .i64 1]) ∧ w = w' := by
  rcases hz with h1 | h1
  · go_enter Try.func57, Try.ntmps57
    go_wp2
    go_ret2
    exact ⟨rfl, rfl⟩
  · have h2 : ¬ size < 1 := by omega
    go_enter Try.func57, Try.ntmps57
    go_wp2
    go_ret2
    exact ⟨rfl, rfl⟩

set_option maxHeartbeats 1000000 in
theorem gap_walk (a : Nat) (F : Nat → Prop) (L : List Rg) (hok : Ok L) (size : Int) (h1 : 1 ≤ size) (h2 : size ≤ 1048576) (w : World) (h : PSp w a F L) : Calls Try.prog 57 #[.pointer (some ⟨a, 0, none⟩), .int .i64 size] w fun e w' =>
    e = .returned (.tuple #[.int .i64 (gapS L size).1, .int .i64 (gapS L size).2]) ∧ Below w.heap.size w w' := by
  obtain ⟨v, Q, hs, rfl, hF⟩ := h
  obtain ⟨A, cap, rfl, hc0, hcap, hm, hrow⟩ := hs.cells
  have HR := Lib.hid hrow; clear hrow
  have hbox := hs.box.lt
  clear hs hF
  unfold maxLen at hm
  have hU := up_ge size h1
  have hU2 := up_le size h1 h2
  have hup := fun w => up_any size h1 h2 w
  have HP : Hid (gapS (Q.map (·.1)) size = if 4294967296 - up size < gapGo (up size) (Q.map (·.1)) 4096 then (0, 3) else (gapGo (up size) (Q.map (·.1)) 4096, 0)) := Lib.hid (by rw [gapS, if_neg (by omega)])
  generalize gapS (Q.map (·.1)) size = gs at HP ⊢
  generalize up size = U at hU hU2 hup HP
  obtain ⟨_, _, hU1, _⟩ := hU
  have HU := Lib.hid hup; clear hup
  have HO := Lib.hid hok; clear hok
  obtain ⟨G, hG⟩ : ∃ G, gapGo U (Q.map (·.1)) 4096 = G := ⟨_, rfl⟩
  rw [hG] at HP
  have HG := Lib.hid hG; clear hG
  go_enter Try.func57, Try.ntmps57
  go_wp2
  go_loopw [6, 20] (fun x i wr => ∃ (k : Nat) (y : Int), k ≤ Q.length ∧ i = .int .i64 k ∧ x = .int .i64 y ∧ 4096 ≤ y ∧ y ≤ 4294967296 ∧ Hid (gapGo U ((Q.map (·.1)).drop k) y = G) ∧ Below w.heap.size w wr) (fun _ i _ => Q.length - (intOf i).toNat)
  case atStart => exact ⟨0, 4096, Nat.zero_le _, rfl, rfl, by omega, by omega, HG, Below.refl _ _⟩
  case round =>
    obtain ⟨k, y, hk, rfl, rfl, hy1, hy2, hg0, hbel⟩ := hrel
    by_cases hlt : k < Q.length
    · obtain ⟨q, hq⟩ : ∃ q, Q[k]? = some q := ⟨Q[k], List.getElem?_eq_getElem hlt⟩
      obtain ⟨g, rfl, hg, hcell⟩ := HR.out k q hq
      have hx : (Q.map (·.1))[k]? = some q.1 := by rw [List.getElem?_map, hq]; rfl
      have HX := Lib.hid hx; clear hx
      have HQ := Lib.hid hq; clear hq
      obtain ⟨⟨qa, qs, qp, qb⟩, qk, qc⟩ := q
      have c0 : wr.cell? ⟨g, k * 4, none⟩ = some (.int .i64 qa) := (hbel.cell (p := ⟨g, k * 4, none⟩) hg).trans (hcell 0 _ rfl)
      have c1 : wr.cell? ⟨g, k * 4 + 1, none⟩ = some (.int .i64 qs) := (hbel.cell (p := ⟨g, k * 4 + 1, none⟩) hg).trans (hcell 1 _ rfl)
      have c2 : wr.cell? ⟨g, k * 4 + 2, none⟩ = some (.int .i64 qp) := (hbel.cell (p := ⟨g, k * 4 + 2, none⟩) hg).trans (hcell 2 _ rfl)
      have c3 : wr.cell? ⟨g, k * 4 + 3, none⟩ = some (.slice (some ⟨qk, 0, none⟩) qb.length qc) := (hbel.cell (p := ⟨g, k * 4 + 3, none⟩) hg).trans (hcell 3 _ rfl)
      clear hcell
      have hrg := HO.out.each _ (List.mem_of_getElem? HX.out)
      have rlo := hrg.lo
      have rhi := hrg.hi
      have rsz := hrg.slo
      simp only at rlo rhi rsz
      clear hrg
      have hs1 : IntKind.i64.wrap (qa - y) = qa - y := IntWalk.i64_in _ (by omega)
      have hst := gapGo_at hg0.out HX.out
      simp only at hst
      have HB := Lib.hid (fun o => hbel.alloc hbel.size o); clear hbel
      by_cases hc : U ≤ qa - y
      · have HN := Lib.hid (hst.1 hc)
        clear hst
        have hd : ¬ 4294967296 - U < y := by omega
        have HV : Hid (gs = (y, 0)) := Lib.hid (by rw [HP.out, HN.out] ; exact if_neg hd)
        go_wp2_with fail
        go_quiet ((go_at_call 24; exact quiet_same (HU.out _)))
        go_wp2_with fail
        refine (HU.out _).mono ?_; rintro e w' ⟨rfl, rfl⟩
        go_wp2
        go_ret2
        exact ⟨ret_int2 (by rw [HV.out]) (by rw [HV.out]), below_drewN (HB.out _) _⟩
      · have HN := Lib.hid (hst.2 hc)
        clear hst
        go_wp2_with fail
        go_quiet ((go_at_call 24; exact quiet_same (HU.out _)))
        go_wp2
        go_roundw
        case rel => exact ⟨k + 1, max y (qa + qs), by omega, by go_num, by rw [max_if], by omega, by omega, HN, below_drewN (HB.out _) _⟩
        case measure => simp [intOf]; omega
    · have hg1 : G = y := by have := hg0.out; rw [List.drop_of_length_le (by simp; omega)] at this; exact this.symm
      have HG1 := Lib.hid hg1; clear hg1
      by_cases hd : 4294967296 - U < y
      · have HV : Hid (gs = (0, 3)) := Lib.hid (by rw [HP.out, HG1.out]; exact if_pos hd)
        go_wp2_with fail
        refine (HU.out _).mono ?_; rintro e w' ⟨rfl, rfl⟩
        go_wp2
        go_ret2
        exact ⟨ret_int2 (by rw [HV.out]) (by rw [HV.out]), hbel⟩
      · have HV : Hid (gs = (y, 0)) := Lib.hid (by rw [HP.out, HG1.out]; exact if_neg hd)
        go_wp2_with fail
        refine (HU.out _).mono ?_; rintro e w' ⟨rfl, rfl⟩
        go_wp2
        go_ret2
        exact ⟨ret_int2 (by rw [HV.out]) (by rw [HV.out]), hbel⟩

theorem gap_any (a : Nat) (F : Nat → Prop) (L : List Rg) (hok : Ok L) (size : Int) (w : World) (h : PSp w a F L) : Calls Try.prog 57 #[.pointer (some ⟨a, 0, none⟩), .int .i64 size] w fun e w' =>
    e = .returned (.tuple #[.int .i64 (gapS L size).1, .int .i64 (gapS L size).2]) ∧ Below w.heap.size w w' := by
  by_cases hz : size < 1 ∨ 1048576 < size
  · refine (gap_arg a size hz w).mono ?_
    rintro e w' ⟨rfl, rfl⟩
    exact ⟨by rw [gapS, if_pos hz], Below.refl _ _⟩
  · exact gap_walk a F L hok size (by omega) (by omega) w h
end Go.Proofs.Ytpononkgeeahdaa
