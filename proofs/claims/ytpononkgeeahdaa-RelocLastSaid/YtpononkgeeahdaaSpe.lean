/-
  Layer 5: get, Read, Peek, Fetch of the program.
  Conditions: none. (My own text.)
-/
import Derived.Test.YtpononkgeeahdaaSpc
import Derived.Test.YtpononkgeeahdaaSpd
namespace Go.Proofs.Ytpononkgeeahdaa
open Go.RowKit Spm
set_option linter.unusedVariables false
set_option linter.unusedSimpArgs false

/-- Bytes of the call's own, and an error. -/
def GotB (base : Nat) (l : List UInt8) (err : Int) (w : World) (e : Ending) (w' : World) : Prop := ∃ v', e = .returned (.tuple #[v', .int .i64 err]) ∧ Bys w' base v' l ∧ Below base w w'
theorem GotB.mk {base : Nat} {l : List UInt8} {err : Int} {w w' : World} {v' : Value} (h : Bys w' base v' l) (hb : Below base w w') : GotB base l err w (.returned (.tuple #[v', .int .i64 err])) w' := ⟨v', rfl, h, hb⟩
theorem GotB.nil {base : Nat} {err : Int} {w w' : World} (hb : Below base w w') : GotB base [] err w (.returned (.tuple #[.slice none 0 0, .int .i64 err])) w' := ⟨_, rfl, World.ownsRow_nil _ _ _ _, hb⟩
theorem GotB.eq {base : Nat} {l l' : List UInt8} {err err' : Int} {w w' : World} {e : Ending} (h : GotB base l err w e w') (h1 : l = l') (h2 : err = err') : GotB base l' err' w e w' := by subst h1; subst h2; exact h

theorem getS_arg {L : List Rg} {at_ n p : Int} (h : n < 1 ∨ 1048576 < n) : getS L at_ n p = ([], 1) := by unfold getS; exact if_pos h
theorem getS_bad {L : List Rg} {at_ p : Int} {n : Nat} (h1 : 1 ≤ n) (h2 : n ≤ 1048576) (h : partS L at_ n p ≠ 0) : getS L at_ n p = ([], partS L at_ n p) := by
  unfold getS; rw [if_neg (by omega), if_pos (by simpa using h), Int.toNat_natCast]
theorem partS_ok {L : List Rg} {at_ p : Int} {n : Nat} (h : partS L at_ n p = 0) : ∃ r, L[partK L at_]? = some r ∧ ¬ r.sz - (at_ - r.at_) < n ∧ has r.pm p = true ∧ inside at_ r = true := by
  unfold partS at h
  split at h
  · simp at h
  · rename_i r hr
    have hl := (List.getElem?_eq_some_iff.1 hr).1
    have he := (List.getElem?_eq_some_iff.1 hr).2
    refine ⟨r, hr, fun hc => by rw [if_pos hc] at h; simp at h, ?_, ?_⟩
    · cases hh : has r.pm p
      · rw [hh] at h
        split at h <;> simp at h
      · rfl
    · have := List.findIdx_getElem (p := inside at_) (xs := L) (w := hl)
      rw [← he]; exact this
theorem getS_ok {L : List Rg} {at_ p : Int} {n : Nat} {r : Rg} (h1 : 1 ≤ n) (h2 : n ≤ 1048576) (h : partS L at_ n p = 0) (hr : L[partK L at_]? = some r) : getS L at_ n p = ((r.bs.drop (at_ - r.at_).toNat).take n, 0) := by
  unfold getS; rw [if_neg (by omega), if_neg (by simpa using h), hr]; simp only [Int.toNat_natCast]
theorem inside_iff {at_ : Int} {r : Rg} (h : inside at_ r = true) : r.at_ ≤ at_ ∧ at_ - r.at_ < r.sz := by unfold inside at h; simpa using h

theorem get_arg (a : Nat) (at_ n p : Int) (hn : n < 1 ∨ 1048576 < n) (w : World) : Calls Try.prog 30 #[.pointer (some ⟨a, 0, none⟩), .int .i64 at_, .int .i64 n, .int .i64 p] w fun e w' => e = .returned (.tuple #[.slice none 0 0, .int .i64 1]) ∧ w = w' := by
  rcases hn with h1 | h1
  · go_enter Try.func30, Try.ntmps30
    go_wp2
    go_ret2
    exact ⟨rfl, rfl⟩
  · have h2 : ¬ n < 1 := by omega
    go_enter Try.func30, Try.ntmps30
    go_wp2
    go_ret2
    exact ⟨rfl, rfl⟩

set_option maxHeartbeats 1000000 in
theorem get_walk (a : Nat) (v : Value) (Q : List RowP) (hok : Ok (Q.map (·.1))) (at_ : Int) (hat : at_ ≤ 9223372036854775807) (n : Nat) (hn1 : 1 ≤ n) (hn2 : n ≤ 1048576) (p : Int) (hp : OneP p) (w : World) (hs : Spc 61 67 w a v Q) :
    Calls Try.prog 30 #[.pointer (some ⟨a, 0, none⟩), .int .i64 at_, .int .i64 n, .int .i64 p] w (GotB w.heap.size (getS (Q.map (·.1)) at_ n p).1 (getS (Q.map (·.1)) at_ n p).2 w) := by
  have c1 := part_any a v Q hok at_ hat n hn1 hn2 p hp w hs
  have hn1' : ¬ (n : Int) < 1 := by omega
  have hn2' : ¬ 1048576 < (n : Int) := by omega
  by_cases hE : partS (Q.map (·.1)) at_ n p = 0
  · obtain ⟨r, hr, hrn, _, hin⟩ := partS_ok hE
    obtain ⟨hi1, hi2⟩ := inside_iff hin
    rw [List.getElem?_map] at hr
    cases hq : Q[partK (Q.map (·.1)) at_]? with
    | none => rw [hq] at hr; cases hr
    | some q =>
      rw [hq] at hr
      have hr' : q.1 = r := by simpa using hr
      subst hr'
      rw [partV_ok hq hE, hE] at c1
      have hg := getS_ok hn1 hn2 hE (r := q.1) (by rw [List.getElem?_map, hq]; rfl)
      obtain ⟨hb1, hb2, hb3, hb4⟩ := hs.bys (List.mem_of_getElem? hq)
      have hlen := (hok.each q.1 (List.mem_map.2 ⟨q, List.mem_of_getElem? hq, rfl⟩)).len
      generalize ho : (at_ - q.1.at_).toNat = o at c1 hg
      have hcl : (((q.1.bs.drop o).take n).map byC).length = n * 1 := by simp; omega
      have HC := Lib.hid (fun (w1 : World) (hb : Below w.heap.size w w1) => cloneB_any q.2.1 o n (q.2.2 - o) (((q.1.bs.drop o).take n).map byC) w1 hcl (by omega) (fun j u hj => by
        rw [List.getElem?_map] at hj
        cases hx : ((q.1.bs.drop o).take n)[j]? with
        | none => rw [hx] at hj; cases hj
        | some x =>
          rw [hx] at hj
          have hu : byC x = u := by simpa using hj
          subst hu
          rw [List.getElem?_take] at hx
          split at hx
          · rw [List.getElem?_drop] at hx
            exact (hb.cell (p := ⟨q.2.1, o + j, none⟩) hb1).trans (hb4 _ _ hx)
          · cases hx) (byC_one _))
      have HL : Hid (((q.1.bs.drop o).take n).length = n) := Lib.hid (by simp; omega)
      rw [hg]
      generalize (q.1.bs.drop o).take n = l at HC HL ⊢
      have C1 := Lib.hid c1
      clear hq hr hok hs c1 hE hg hb1 hb2 hb3 hb4 hlen ho hcl hi1 hi2 hin hrn
      go_enter Try.func30, Try.ntmps30
      go_wp2_with fail
      refine (C1.out).mono ?_
      rintro e w1 ⟨rfl, h1⟩
      have H1 := Lib.hid h1; clear h1
      go_wp2_with fail
      refine (HC.out _ H1.out).mono ?_
      rintro e w2 ⟨v', rfl, hown, _, h2⟩
      have H2 := Lib.hid h2; clear h2
      have HW := Lib.hid hown; clear hown
      go_wp2
      go_ret2
      exact GotB.mk (by unfold Bys; rw [HL.out]; exact owns_mono HW.out H1.out.size) (H1.out.trans (H2.out.mono H1.out.size))
  · rw [partV_bad hE] at c1
    have hg := getS_bad hn1 hn2 hE
    rw [hg]
    generalize partS (Q.map (·.1)) at_ n p = E at c1 hE ⊢
    have C1 := Lib.hid c1
    clear hok hs c1 hE hg
    go_enter Try.func30, Try.ntmps30
    go_wp2_with fail
    refine (C1.out).mono ?_
    rintro e w1 ⟨rfl, h1⟩
    have H1 := Lib.hid h1; clear h1
    go_wp2_with fail
    refine (cloneB_nil _ _ _).mono ?_
    rintro e w2 ⟨rfl, rfl⟩
    go_wp2
    go_ret2
    exact GotB.nil H1.out

theorem get_any (a : Nat) (F : Nat → Prop) (L : List Rg) (hok : Ok L) (at_ : Int) (hat : at_ ≤ 9223372036854775807) (n p : Int) (hp : OneP p) (w : World) (h : PSp w a F L) :
    Calls Try.prog 30 #[.pointer (some ⟨a, 0, none⟩), .int .i64 at_, .int .i64 n, .int .i64 p] w (GotB w.heap.size (getS L at_ n p).1 (getS L at_ n p).2 w) := by
  by_cases hn : n < 1 ∨ 1048576 < n
  · refine (get_arg a at_ n p hn w).mono ?_
    rintro e w' ⟨rfl, rfl⟩
    rw [getS_arg hn]
    exact GotB.nil (Below.refl _ _)
  · obtain ⟨v, Q, hs, rfl, hF⟩ := h
    obtain ⟨m, rfl⟩ : ∃ m : Nat, n = (m : Int) := ⟨n.toNat, by omega⟩
    exact get_walk a v Q hok at_ hat m (by omega) (by omega) p hp w hs

theorem peek_any (a : Nat) (F : Nat → Prop) (L : List Rg) (hok : Ok L) (at_ : Int) (hat : at_ ≤ 9223372036854775807) (n : Int) (w : World) (h : PSp w a F L) :
    Calls Try.prog 19 #[.pointer (some ⟨a, 0, none⟩), .int .i64 at_, .int .i64 n] w (GotB w.heap.size (getS L at_ n 0).1 (getS L at_ n 0).2 w) := by
  have C1 := Lib.hid (get_any a F L hok at_ hat n 0 (by unfold OneP; omega) w h)
  clear hok h
  generalize getS L at_ n 0 = r at C1 ⊢
  go_enter Try.func19, Try.ntmps19
  go_wp2_with fail
  refine (C1.out).mono ?_
  rintro e w1 ⟨v', rfl, hown, h1⟩
  have H1 := Lib.hid h1; clear h1
  have HW := Lib.hid hown; clear hown
  go_wp2
  go_ret2
  exact GotB.mk HW.out H1.out

end Go.Proofs.Ytpononkgeeahdaa
