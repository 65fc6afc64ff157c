/-
  Layer 5: a law's own space; awake.
  Conditions: none. (My own text.)
-/
import Derived.Test.YtblmppdfdihogaaSpr
import Derived.Test.YtblmppdfdihogaaSpt
namespace Go.Proofs.Ytblmppdfdihogaa
open Go.RowKit Spm
set_option linter.unusedVariables false
set_option linter.unusedSimpArgs false

/-- A space that the law itself made: all of it lies from block B on; below B all is as it was in w. -/
structure Mine (B : Nat) (w wr : World) (a : Nat) (L : List Rg) : Prop where
  sp : PSp wr a (fun k => B ≤ k) L
  bel : Below B w wr
  le : B ≤ wr.heap.size
  ok : Ok L
theorem Mine.sets {B : Nat} {w wr w' : World} {a : Nat} {L : List Rg} {r : List Rg × Int} {e : Ending} (h : Mine B w wr a L) (hs : SetsE a (fun k => B ≤ k) r wr e w') (hok : Ok r.1) : Mine B w w' a r.1 :=
  ⟨hs.2.1.mono (fun k hk _ => by rcases hk with hk | hk; exact hk; have := h.le; omega), h.bel.trans (hs.2.2.below h.le (fun k hk => hk)), Nat.le_trans h.le hs.2.2.size, hok⟩
theorem Mine.sets2 {B : Nat} {w wr w' : World} {a : Nat} {L : List Rg} {r : List Rg × Int × Int} {e : Ending} (h : Mine B w wr a L) (hs : Sets2 a (fun k => B ≤ k) r wr e w') (hok : Ok r.1) : Mine B w w' a r.1 :=
  ⟨hs.2.1.mono (fun k hk _ => by rcases hk with hk | hk; exact hk; have := h.le; omega), h.bel.trans (hs.2.2.below h.le (fun k hk => hk)), Nat.le_trans h.le hs.2.2.size, hok⟩
theorem Mine.stay {B : Nat} {w wr w' : World} {a : Nat} {L : List Rg} (h : Mine B w wr a L) (hb : Below wr.heap.size wr w') : Mine B w w' a L :=
  ⟨h.sp.stay hb, h.bel.trans (hb.mono h.le), Nat.le_trans h.le hb.size, h.ok⟩
theorem Mine.new {B : Nat} {w wr w' : World} (hbel : Below B w wr) (hle : B ≤ wr.heap.size) (h1 : PSp w' wr.heap.size (fun k => wr.heap.size ≤ k) []) (h2 : Below wr.heap.size wr w') : Mine B w w' wr.heap.size [] :=
  ⟨h1.mono (fun k hk _ => by omega), hbel.trans (h2.mono hle), Nat.le_trans hle h2.size, Ok.nil⟩

/-! The contracts, at a space of the law's own. -/
section
variable {B : Nat} {w wr : World} {a : Nat} {L : List Rg}
def MineE (B : Nat) (w : World) (a : Nat) (r : List Rg × Int) (e : Ending) (w' : World) : Prop := e = .returned (.int .i64 r.2) ∧ Mine B w w' a r.1
def Mine2 (B : Nat) (w : World) (a : Nat) (r : List Rg × Int × Int) (e : Ending) (w' : World) : Prop := e = .returned (.tuple #[.int .i64 r.2.1, .int .i64 r.2.2]) ∧ Mine B w w' a r.1
theorem my_map (h : Mine B w wr a L) (size p : Int) : Calls Try.prog 21 #[.pointer (some ⟨a, 0, none⟩), .int .i64 size, .int .i64 p] wr (Mine2 B w a (mapS L size p)) :=
  (map_any a _ L h.ok size p wr h.sp).mono fun _ _ hs => ⟨hs.1, h.sets2 hs (h.ok.map _ _)⟩
theorem my_mapAt (h : Mine B w wr a L) (at_ size p : Int) : Calls Try.prog 16 #[.pointer (some ⟨a, 0, none⟩), .int .i64 at_, .int .i64 size, .int .i64 p] wr (MineE B w a (mapAtS L at_ size p)) :=
  (mapAt_any a _ L h.ok at_ size p wr h.sp).mono fun _ _ hs => ⟨hs.1, h.sets hs (h.ok.mapAt _ _ _)⟩
theorem my_unmap (h : Mine B w wr a L) (at_ : Int) : Calls Try.prog 24 #[.pointer (some ⟨a, 0, none⟩), .int .i64 at_] wr (MineE B w a (unmapS L at_)) :=
  (unmap_any a _ L h.ok at_ wr h.sp).mono fun _ _ hs => ⟨hs.1, h.sets hs (h.ok.unmap _)⟩
theorem my_setWord (h : Mine B w wr a L) (at_ : Int) (hat : at_ ≤ 9223372036854775807) (n : Int) : Calls Try.prog 17 #[.pointer (some ⟨a, 0, none⟩), .int .i64 at_, .int .i64 n] wr (MineE B w a (setS L at_ (bytesS n) 2)) :=
  (setWord_any a _ L h.ok at_ hat n wr h.sp).mono fun _ _ hs => ⟨hs.1, h.sets hs (h.ok.set _ _ _)⟩
theorem my_pokeWord (h : Mine B w wr a L) (at_ : Int) (hat : at_ ≤ 9223372036854775807) (n : Int) : Calls Try.prog 30 #[.pointer (some ⟨a, 0, none⟩), .int .i64 at_, .int .i64 n] wr (MineE B w a (setS L at_ (bytesS n) 0)) :=
  (pokeWord_any a _ L h.ok at_ hat n wr h.sp).mono fun _ _ hs => ⟨hs.1, h.sets hs (h.ok.set _ _ _)⟩
theorem my_gap (h : Mine B w wr a L) (size : Int) : Calls Try.prog 20 #[.pointer (some ⟨a, 0, none⟩), .int .i64 size] wr fun e w' => e = .returned (.tuple #[.int .i64 (gapS L size).1, .int .i64 (gapS L size).2]) ∧ Mine B w w' a L :=
  (gap_any a _ L h.ok size wr h.sp).mono fun _ _ hs => ⟨hs.1, h.stay hs.2⟩
end

def wk1 : List Rg := (mapS [] 1 3).1
def wk2 : List Rg := (mapS wk1 65 1).1
def wk3 : List Rg := (unmapS wk2 4096).1
theorem wk_1 : (mapS [] 1 3).2.1 = 4096 ∧ (mapS [] 1 3).2.2 = 0 := by decide +kernel
theorem wk_2 : (mapS wk1 65 1).2.1 = 4160 ∧ (mapS wk1 65 1).2.2 = 0 := by decide +kernel
theorem wk_3 : (unmapS wk2 4096).2 = 0 := by decide +kernel
theorem wk_4 : (gapS wk3 65).1 = 4288 ∧ (gapS wk3 65).2 = 0 := by decide +kernel
theorem wk_5 : (setS wk3 4160 (bytesS 1) 2).2 = 52 ∧ (setS wk3 4160 (bytesS 1) 2).1 = wk3 := by decide +kernel
theorem wk_6 : (setS wk3 4160 (bytesS 1) 0).2 = 0 := by decide +kernel

set_option maxHeartbeats 1000000 in
theorem awake_any (w : World) : Calls Try.prog 10 #[] w fun e w' => e = .returned (.bool true) ∧ Below w.heap.size w w' := by
  have C1 : Hid (∀ {w1 : World} {a : Nat}, Mine w.heap.size w w1 a [] → Calls Try.prog 21 #[.pointer (some ⟨a, 0, none⟩), .int .i64 1, .int .i64 3] w1 fun e w' => e = .returned (.tuple #[.int .i64 4096, .int .i64 0]) ∧ Mine w.heap.size w w' a wk1) := Lib.hid (fun h => (my_map h 1 3).mono fun e w' h' => ⟨by rw [h'.1, wk_1.1, wk_1.2], h'.2⟩)
  have C2 : Hid (∀ {w1 : World} {a : Nat}, Mine w.heap.size w w1 a wk1 → Calls Try.prog 21 #[.pointer (some ⟨a, 0, none⟩), .int .i64 65, .int .i64 1] w1 fun e w' => e = .returned (.tuple #[.int .i64 4160, .int .i64 0]) ∧ Mine w.heap.size w w' a wk2) := Lib.hid (fun h => (my_map h 65 1).mono fun e w' h' => ⟨by rw [h'.1, wk_2.1, wk_2.2], h'.2⟩)
  have C3 : Hid (∀ {w1 : World} {a : Nat}, Mine w.heap.size w w1 a wk2 → Calls Try.prog 24 #[.pointer (some ⟨a, 0, none⟩), .int .i64 4096] w1 fun e w' => e = .returned (.int .i64 0) ∧ Mine w.heap.size w w' a wk3) := Lib.hid (fun h => (my_unmap h 4096).mono fun e w' h' => ⟨by rw [h'.1, wk_3], h'.2⟩)
  have C4 : Hid (∀ {w1 : World} {a : Nat}, Mine w.heap.size w w1 a wk3 → Calls Try.prog 20 #[.pointer (some ⟨a, 0, none⟩), .int .i64 65] w1 fun e w' => e = .returned (.tuple #[.int .i64 4288, .int .i64 0]) ∧ Mine w.heap.size w w' a wk3) := Lib.hid (fun h => (my_gap h 65).mono fun e w' h' => ⟨by rw [h'.1, wk_4.1, wk_4.2], h'.2⟩)
  have C5 : Hid (∀ {w1 : World} {a : Nat}, Mine w.heap.size w w1 a wk3 → Calls Try.prog 17 #[.pointer (some ⟨a, 0, none⟩), .int .i64 4160, .int .i64 1] w1 fun e w' => e = .returned (.int .i64 52) ∧ Mine w.heap.size w w' a wk3) := Lib.hid (fun h => (my_setWord h 4160 (by decide) 1).mono fun e w' h' => ⟨by rw [h'.1, wk_5.1], by have := h'.2; rwa [wk_5.2] at this⟩)
  have C6 : Hid (∀ {w1 : World} {a : Nat}, Mine w.heap.size w w1 a wk3 → Calls Try.prog 30 #[.pointer (some ⟨a, 0, none⟩), .int .i64 4160, .int .i64 1] w1 fun e w' => e = .returned (.int .i64 0) ∧ Below w.heap.size w w') := Lib.hid (fun h => (my_pokeWord h 4160 (by decide) 1).mono fun e w' h' => ⟨by rw [h'.1, wk_6], h'.2.bel⟩)
  go_enter Try.func10, Try.ntmps10
  go_wp2_with fail
  refine (new_any _).mono ?_
  rintro e w1 ⟨rfl, h1, h2⟩
  have M1 := Lib.hid (Mine.new (Below.refl _ w) (Nat.le_refl _) h1 h2); clear h1 h2
  go_wp2_with fail
  refine (C1.out M1.out).mono ?_
  rintro e w2 ⟨rfl, m2⟩
  have M2 := Lib.hid m2; clear m2
  go_wp2_with fail
  refine (C2.out M2.out).mono ?_
  rintro e w3 ⟨rfl, m3⟩
  have M3 := Lib.hid m3; clear m3
  go_wp2_with fail
  refine (C3.out M3.out).mono ?_
  rintro e w4 ⟨rfl, m4⟩
  have M4 := Lib.hid m4; clear m4
  go_wp2_with fail
  refine (C4.out M4.out).mono ?_
  rintro e w5 ⟨rfl, m5⟩
  have M5 := Lib.hid m5; clear m5
  go_wp2_with fail
  refine (C5.out M5.out).mono ?_
  rintro e w6 ⟨rfl, m6⟩
  have M6 := Lib.hid m6; clear m6
  go_wp2_with fail
  refine (C6.out M6.out).mono ?_
  rintro e w7 ⟨rfl, m7⟩
  have M7 := Lib.hid m7; clear m7
  go_wp2
  go_ret
  exact ⟨by simp, M7.out⟩
end Go.Proofs.Ytblmppdfdihogaa
