/-
  Layer 5: a law's own space; awake.
  Conditions: none. (My own text.)
-/
import Derived.Test.YtpononkgeeahdaaSpr
import Derived.Test.YtpononkgeeahdaaSpt
namespace Go.Proofs.Ytpononkgeeahdaa
open Go.RowKit Spm
set_option linter.unusedVariables false
set_option linter.unusedSimpArgs false

/-- A space that the law itself made: all of it lies from block B on; below B all is as it was in w. -/
structure Mine (B : Nat) (w wr : World) (a : Nat) (L : List Rg) : Prop where
  sp : PSp wr a (fun k => B ≤ k) L
  bel : Below B w wr
  le : B ≤ wr.heap.size
  ok : Ok L
theorem Mine.sets {B : Nat} {w wr w' : World} {a : Nat} {L : List Rg} {r : List Rg × Int} {e : Ending} (h : Mine B w wr a L) (hs : SetsE a (fun k => B ≤ k) r wr e w') (hok : Ok r.1) : Mine B w w' a r.1 :=
  ⟨hs.2.1.mono (fun k hk _ => by rcases hk with hk | hk; exact hk; have := h.le; omega), h.bel.trans (hs.2.2.below h.le (fun k hk => hk)), Nat.le_trans h.le hs.2.2.size, hok⟩
theorem Mine.sets2 {B : Nat} {w wr w' : World} {a : Nat} {L : List Rg} {r : List Rg × Int × Int} {e : Ending} (h : Mine B w wr a L) (hs : Sets2 a (fun k => B ≤ k) r wr e w') (hok : Ok r.1) : Mine B w w' a r.1 :=
  ⟨hs.2.1.mono (fun k hk _ => by rcases hk with hk | hk; exact hk; have := h.le; omega), h.bel.trans (hs.2.2.below h.le (fun k hk => hk)), Nat.le_trans h.le hs.2.2.size, hok⟩
theorem Mine.stay {B : Nat} {w wr w' : World} {a : Nat} {L : List Rg} (h : Mine B w wr a L) (hb : Below wr.heap.size wr w') : Mine B w w' a L :=
  ⟨h.sp.stay hb, h.bel.trans (hb.mono h.le), Nat.le_trans h.le hb.size, h.ok⟩
theorem Mine.new {B : Nat} {w wr w' : World} (hbel : Below B w wr) (hle : B ≤ wr.heap.size) (h1 : PSp w' wr.heap.size (fun k => wr.heap.size ≤ k) []) (h2 : Below wr.heap.size wr w') : Mine B w w' wr.heap.size [] :=
  ⟨h1.mono (fun k hk _ => by omega), hbel.trans (h2.mono hle), Nat.le_trans hle h2.size, Ok.nil⟩

/-! The contracts, at a space of the law's own. -/
section
variable {B : Nat} {w wr : World} {a : Nat} {L : List Rg}
def MineE (B : Nat) (w : World) (a : Nat) (r : List Rg × Int) (e : Ending) (w' : World) : Prop := e = .returned (.int .i64 r.2) ∧ Mine B w w' a r.1
def Mine2 (B : Nat) (w : World) (a : Nat) (r : List Rg × Int × Int) (e : Ending) (w' : World) : Prop := e = .returned (.tuple #[.int .i64 r.2.1, .int .i64 r.2.2]) ∧ Mine B w w' a r.1
theorem my_map (h : Mine B w wr a L) (size p : Int) : Calls Try.prog 41 #[.pointer (some ⟨a, 0, none⟩), .int .i64 size, .int .i64 p] wr (Mine2 B w a (mapS L size p)) :=
  (map_any a _ L h.ok size p wr h.sp).mono fun _ _ hs => ⟨hs.1, h.sets2 hs (h.ok.map _ _)⟩
theorem my_mapAt (h : Mine B w wr a L) (at_ size p : Int) : Calls Try.prog 15 #[.pointer (some ⟨a, 0, none⟩), .int .i64 at_, .int .i64 size, .int .i64 p] wr (MineE B w a (mapAtS L at_ size p)) :=
  (mapAt_any a _ L h.ok at_ size p wr h.sp).mono fun _ _ hs => ⟨hs.1, h.sets hs (h.ok.mapAt _ _ _)⟩
theorem my_unmap (h : Mine B w wr a L) (at_ : Int) : Calls Try.prog 42 #[.pointer (some ⟨a, 0, none⟩), .int .i64 at_] wr (MineE B w a (unmapS L at_)) :=
  (unmap_any a _ L h.ok at_ wr h.sp).mono fun _ _ hs => ⟨hs.1, h.sets hs (h.ok.unmap _)⟩
theorem my_setWord (h : Mine B w wr a L) (at_ : Int) (hat : at_ ≤ 9223372036854775807) (n : Int) : Calls Try.prog 45 #[.pointer (some ⟨a, 0, none⟩), .int .i64 at_, .int .i64 n] wr (MineE B w a (setS L at_ (bytesS n) 2)) :=
  (setWord_any a _ L h.ok at_ hat n wr h.sp).mono fun _ _ hs => ⟨hs.1, h.sets hs (h.ok.set _ _ _)⟩
theorem my_pokeWord (h : Mine B w wr a L) (at_ : Int) (hat : at_ ≤ 9223372036854775807) (n : Int) : Calls Try.prog 27 #[.pointer (some ⟨a, 0, none⟩), .int .i64 at_, .int .i64 n] wr (MineE B w a (setS L at_ (bytesS n) 0)) :=
  (pokeWord_any a _ L h.ok at_ hat n wr h.sp).mono fun _ _ hs => ⟨hs.1, h.sets hs (h.ok.set _ _ _)⟩
theorem my_gap (h : Mine B w wr a L) (size : Int) : Calls Try.prog 57 #[.pointer (some ⟨a, 0, none⟩), .int .i64 size] wr fun e w' => e = .returned (.tuple #[.int .i64 (gapS L size).1, .int .i64 (gapS L size).2]) ∧ Mine B w w' a L :=
  (gap_any a _ L h.ok size wr h.sp).mono fun _ _ hs => ⟨hs.1, h.stay hs.2⟩
end

def wk1 : List Rg := (mapS [] 1 3).1
def wk2 : List Rg := (mapS wk1 65 1).1
def wk3 : List Rg := (unmapS wk2 4096).1
theorem wk_1 : (mapS [] 1 3).2.1 = 4096 ∧ (mapS [] 1 3).2.2 = 0 := by decide +kernel
theorem wk_2 : (mapS wk1 65 1).2.1 = 4160 ∧ (mapS wk1 65 1).2.2 = 0 := by decide +kernel
theorem wk_3 : (unmapS wk2 4096).2 = 0 := by decide +kernel
theorem wk_4 : (gapS wk3 65).1 = 4288 ∧ (gapS wk3 65).2 = 0 := by decide +kernel
theorem wk_5 : (setS wk3 4160 (bytesS 1) 2).2 = 52 ∧ (setS wk3 4160 (bytesS 1) 2).1 = wk3 := by decide +kernel
theorem wk_6 : (setS wk3 4160 (bytesS 1) 0).2 = 0 := by decide +kernel

end Go.Proofs.Ytpononkgeeahdaa
