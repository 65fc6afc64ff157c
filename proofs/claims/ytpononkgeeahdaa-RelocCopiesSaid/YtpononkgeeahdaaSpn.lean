/-
  Layer 5: MapAt, Map, New of the program.
  Conditions: none. (My own text.)
-/
import Derived.Test.YtpononkgeeahdaaSpl1
import Derived.Test.YtpononkgeeahdaaSpl2
import Derived.Test.YtpononkgeeahdaaSpl3
import Derived.Test.YtpononkgeeahdaaSpl4
import Derived.Test.YtpononkgeeahdaaSpl5
import Derived.Test.YtpononkgeeahdaaSpl6
import Derived.Test.YtpononkgeeahdaaSpl7
import Derived.Test.YtpononkgeeahdaaSpl8
namespace Go.Proofs.Ytpononkgeeahdaa
open Go.RowKit Spm
set_option linter.unusedVariables false
set_option linter.unusedSimpArgs false

theorem some_of {Q : List RowP} {j : Nat} (h : j < Q.length) : ∃ x, (Q.map (·.1))[j]? = some x := by
  rw [List.getElem?_map, List.getElem?_eq_getElem h]; exact ⟨_, rfl⟩

theorem mapAt_any (a : Nat) (F : Nat → Prop) (L : List Rg) (hok : Ok L) (at_ size p : Int) (w : World) (h : PSp w a F L) : Calls Try.prog 15 #[.pointer (some ⟨a, 0, none⟩), .int .i64 at_, .int .i64 size, .int .i64 p] w (SetsE a F (mapAtS L at_ size p) w) := by
  by_cases hr : right size p = 0
  · by_cases hb : atBad at_ size
    · rw [mapAtS_b hr hb]
      exact mapAt_b a F L at_ size p hr hb w h
    · obtain ⟨v, Q, hs, rfl, hF⟩ := h
      have hle := insP_le at_ (Q.map (·.1))
      rw [List.length_map] at hle
      cases hK : insP at_ (Q.map (·.1)) with
      | zero =>
        rcases Nat.eq_zero_or_pos Q.length with hn | hn
        · exact mapAt_n0 a v Q F hok at_ size p hr hb w hs hF hK hn
        · obtain ⟨x, hx⟩ := some_of hn
          by_cases hd : x.at_ < at_ + up size
          · exact mapAt_m1 a v Q F hok at_ size p hr hb w hs hF hK hn (fun y hy => by rw [hx] at hy; cases hy; exact hd)
          · exact mapAt_o0 a v Q F hok at_ size p hr hb w hs hF hK hn (fun y hy => by rw [hx] at hy; cases hy; omega)
      | succ j =>
        obtain ⟨y, hy⟩ := some_of (Q := Q) (j := j) (by omega)
        by_cases hd1 : at_ < y.at_ + y.sz
        · rcases Nat.lt_or_ge (j + 1) Q.length with hn | hn
          · exact mapAt_m2a j a v Q F hok at_ size p hr hb w hs hF hK hn (fun z hz => by rw [hy] at hz; cases hz; exact hd1)
          · exact mapAt_m2b j a v Q F hok at_ size p hr hb w hs hF hK (by omega) (fun z hz => by rw [hy] at hz; cases hz; exact hd1)
        · rcases Nat.lt_or_ge (j + 1) Q.length with hn | hn
          · obtain ⟨x, hx⟩ := some_of hn
            by_cases hd : x.at_ < at_ + up size
            · exact mapAt_m3 j a v Q F hok at_ size p hr hb w hs hF hK hn (fun z hz => by rw [hy] at hz; cases hz; omega) (fun z hz => by rw [hx] at hz; cases hz; exact hd)
            · exact mapAt_oj j a v Q F hok at_ size p hr hb w hs hF hK hn (fun z hz => by rw [hy] at hz; cases hz; omega) (fun z hz => by rw [hx] at hz; cases hz; omega)
          · exact mapAt_nj j a v Q F hok at_ size p hr hb w hs hF hK (by omega) (fun z hz => by rw [hy] at hz; cases hz; omega)
  · rw [mapAtS_r hr]
    exact mapAt_r a F L at_ size p hr w h

/-- An act that answers a number and an error. -/
def Sets2 (a : Nat) (F : Nat → Prop) (r : List Rg × Int × Int) (w : World) (e : Ending) (w' : World) : Prop := e = .returned (.tuple #[.int .i64 r.2.1, .int .i64 r.2.2]) ∧ PSp w' a (fun k => F k ∨ w.heap.size ≤ k) r.1 ∧ Keeps F w w'
theorem Sets2.same {a : Nat} {F : Nat → Prop} {L : List Rg} {n err : Int} {w w' : World} (h : PSp w a F L) (hb : Below w.heap.size w w') : Sets2 a F (L, n, err) w (.returned (.tuple #[.int .i64 n, .int .i64 err])) w' :=
  ⟨rfl, (h.stay hb).mono (fun k hk _ => .inl hk), Keeps.of_below hb⟩

set_option maxHeartbeats 1000000 in
theorem map_any (a : Nat) (F : Nat → Prop) (L : List Rg) (hok : Ok L) (size p : Int) (w : World) (h : PSp w a F L) : Calls Try.prog 41 #[.pointer (some ⟨a, 0, none⟩), .int .i64 size, .int .i64 p] w (Sets2 a F (mapS L size p) w) := by
  have c1 := fun w => right_any size p w
  by_cases hr : right size p = 0
  · rw [hr] at c1
    have C1 := Lib.hid c1; clear c1
    have C2 := Lib.hid (gap_any a F L hok size w h)
    by_cases hg : (gapS L size).2 = 0
    · have e : mapS L size p = ((mapAtS L (gapS L size).1 size p).1, (gapS L size).1, (mapAtS L (gapS L size).1 size p).2) := by unfold mapS; rw [if_neg (by simp [hr]), if_neg (by simp [hg])]
      rw [e]
      rw [hg] at C2
      have C3 := Lib.hid (fun w1 (hb : Below w.heap.size w w1) => (mapAt_any a F L hok (gapS L size).1 size p w1 (h.stay hb)).mono fun e w' h' => SetsE.after hb h')
      generalize (gapS L size).1 = g at C2 C3 ⊢
      generalize mapAtS L g size p = r at C3 ⊢
      clear e hr hg hok h
      go_enter Try.func41, Try.ntmps41
      go_wp2_with fail
      refine (C1.out _).mono ?_
      rintro e w1 ⟨rfl, rfl⟩
      go_wp2_with fail
      refine (C2.out).mono ?_
      rintro e w1 ⟨rfl, h1⟩
      have H1 := Lib.hid h1; clear h1
      go_wp2_with fail
      refine (C3.out _ H1.out).mono ?_
      rintro e w2 ⟨rfl, h2, h3⟩
      have H2 := Lib.hid h2; clear h2
      have H3 := Lib.hid h3; clear h3
      go_wp2
      go_ret2
      exact ⟨rfl, H2.out, H3.out⟩
    · have e : mapS L size p = (L, 0, (gapS L size).2) := by unfold mapS; rw [if_neg (by simp [hr]), if_pos hg]
      rw [e]
      have H := Lib.hid h
      generalize gapS L size = g at C2 hg ⊢
      obtain ⟨g1, g2⟩ := g
      simp only at C2 hg ⊢
      clear e hr hok h
      go_enter Try.func41, Try.ntmps41
      go_wp2_with fail
      refine (C1.out _).mono ?_
      rintro e w1 ⟨rfl, rfl⟩
      go_wp2_with fail
      refine (C2.out).mono ?_
      rintro e w1 ⟨rfl, h1⟩
      have H1 := Lib.hid h1; clear h1
      go_wp2
      go_ret2
      exact Sets2.same H.out H1.out
  · have e : mapS L size p = (L, 0, 1) := by unfold mapS; rw [if_pos hr]
    rw [e]
    rw [right_ne hr] at c1
    have C1 := Lib.hid c1; clear c1
    have H := Lib.hid h
    clear e hr hok h
    go_enter Try.func41, Try.ntmps41
    go_wp2_with fail
    refine (C1.out _).mono ?_
    rintro e w1 ⟨rfl, rfl⟩
    go_wp2
    go_ret2
    exact Sets2.same H.out (Below.refl _ _)

/-- A new space. -/
theorem new_any (w : World) : Calls Try.prog 14 #[] w fun e w' => e = .returned (.pointer (some ⟨w.heap.size, 0, none⟩)) ∧ PSp w' w.heap.size (fun k => w.heap.size ≤ k) [] ∧ Below w.heap.size w w' := by
  have HP : Hid (PSp (w.alloc (.cells #[.slice none 0 0] 61)) w.heap.size (fun k => w.heap.size ≤ k) []) := Lib.hid ⟨.slice none 0 0, [], ⟨Blk.new _ _ _, World.ownsRow_nil _ _ _ _, by simp, by simp [foot, Value.ownBlock]⟩, rfl, by simp [foot, Value.ownBlock]⟩
  go_enter Try.func14, Try.ntmps14
  go_wp2
  go_ret
  exact ⟨rfl, HP.out, (Below.refl _ _).alloc (Nat.le_refl _) _⟩
end Go.Proofs.Ytpononkgeeahdaa
