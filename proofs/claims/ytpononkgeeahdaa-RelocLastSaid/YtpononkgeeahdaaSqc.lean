/-
  What a law owns: things in memory, each with its blocks; apart from one another; what a call on one of them leaves of the others.
  Conditions: none. (My own text.)
-/
import Derived.Test.YtpononkgeeahdaaSpw
namespace Go.Proofs.Ytpononkgeeahdaa
open Go.RowKit
set_option linter.unusedVariables false

/-- A thing in memory, with its blocks. -/
abbrev Res := World → (Nat → Prop) → Prop
class Fr (X : Res) : Prop where
  keep : ∀ {w w' : World} {F : Nat → Prop}, X w F → (∀ k, F k → k < w.heap.size → w'.heap[k]? = w.heap[k]?) → X w' F
  mono : ∀ {w : World} {F G : Nat → Prop}, X w F → (∀ k, F k → k < w.heap.size → G k) → X w G

/-- Two things, apart. -/
def Star (X Y : Res) : Res := fun w F => ∃ F1 F2, X w F1 ∧ Y w F2 ∧ (∀ k, F1 k → ¬ F2 k) ∧ (∀ k, F1 k → F k) ∧ (∀ k, F2 k → F k)
def Emp : Res := fun _ _ => True
instance fr_emp : Fr Emp := ⟨fun _ _ => trivial, fun _ _ => trivial⟩

instance fr_star {X Y : Res} [hX : Fr X] [hY : Fr Y] : Fr (Star X Y) :=
  ⟨fun ⟨F1, F2, h1, h2, hd, g1, g2⟩ hk => ⟨F1, F2, hX.keep h1 (fun k hf => hk k (g1 k hf)), hY.keep h2 (fun k hf => hk k (g2 k hf)), hd, g1, g2⟩,
   fun {w F G} ⟨F1, F2, h1, h2, hd, g1, g2⟩ hm => ⟨fun k => F1 k ∧ k < w.heap.size, fun k => F2 k ∧ k < w.heap.size, hX.mono h1 (fun k hk hl => ⟨hk, hl⟩), hY.mono h2 (fun k hk hl => ⟨hk, hl⟩),
     fun k hk hk2 => hd k hk.1 hk2.1, fun k hk => hm k (g1 k hk.1) hk.2, fun k hk => hm k (g2 k hk.1) hk.2⟩⟩

theorem Star.comm {X Y : Res} {w : World} {F : Nat → Prop} : Star X Y w F → Star Y X w F
  | ⟨F1, F2, h1, h2, hd, g1, g2⟩ => ⟨F2, F1, h2, h1, fun k a b => hd k b a, g2, g1⟩
theorem Star.assoc {X Y Z : Res} {w : World} {F : Nat → Prop} : Star (Star X Y) Z w F → Star X (Star Y Z) w F
  | ⟨F1, F2, ⟨E1, E2, h1, h2, hd, g1, g2⟩, h3, hd2, g3, g4⟩ => ⟨E1, fun k => E2 k ∨ F2 k, h1, ⟨E2, F2, h2, h3, fun k a => hd2 k (g2 k a), fun _ a => .inl a, fun _ a => .inr a⟩,
      fun k a b => by rcases b with b | b; exact hd k a b; exact hd2 k (g1 k a) b, fun k a => g3 k (g1 k a), fun k a => by rcases a with a | a; exact g3 k (g2 k a); exact g4 k a⟩
theorem Star.assoc' {X Y Z : Res} {w : World} {F : Nat → Prop} : Star X (Star Y Z) w F → Star (Star X Y) Z w F
  | ⟨F1, F2, h1, ⟨E1, E2, h2, h3, hd, g1, g2⟩, hd2, g3, g4⟩ => ⟨fun k => F1 k ∨ E1 k, E2, ⟨F1, E1, h1, h2, fun k a b => hd2 k a (g1 k b), fun _ a => .inl a, fun _ a => .inr a⟩, h3,
      fun k a b => by rcases a with a | a; exact hd2 k a (g2 k b); exact hd k a b, fun k a => by rcases a with a | a; exact g3 k a; exact g4 k (g1 k a), fun k a => g4 k (g2 k a)⟩

/-- The law's own: all of it lies from block B on; below B all is as it was in w. -/
structure Has (B : Nat) (w wr : World) (X : Res) : Prop where
  own : ∃ F : Nat → Prop, X wr F ∧ ∀ k, F k → B ≤ k
  bel : Below B w wr
  le : B ≤ wr.heap.size

/-- What a call on a thing leaves: the thing, and what is new; all else as it was. -/
def Goes (X : Res) (F : Nat → Prop) (w w' : World) : Prop := X w' (fun k => F k ∨ w.heap.size ≤ k) ∧ Keeps F w w'

section
variable {B : Nat} {w wr w' : World} {X Y Z X' : Res}
theorem Has.start (hbel : Below B w wr) (hle : B ≤ wr.heap.size) : Has B w wr Emp := ⟨⟨fun _ => False, trivial, fun _ h => h.elim⟩, hbel, hle⟩
theorem Has.imp (h : Has B w wr X) (hi : ∀ F, X wr F → Y wr F) : Has B w wr Y := ⟨by obtain ⟨F, h1, h2⟩ := h.own; exact ⟨F, hi F h1, h2⟩, h.bel, h.le⟩
theorem Has.comm (h : Has B w wr (Star X Y)) : Has B w wr (Star Y X) := h.imp fun _ => Star.comm
theorem Has.assoc (h : Has B w wr (Star (Star X Y) Z)) : Has B w wr (Star X (Star Y Z)) := h.imp fun _ => Star.assoc
theorem Has.assoc' (h : Has B w wr (Star X (Star Y Z))) : Has B w wr (Star (Star X Y) Z) := h.imp fun _ => Star.assoc'
theorem Has.left (h : Has B w wr (Star X Y)) : Has B w wr X := ⟨by obtain ⟨F, ⟨F1, F2, h1, _, _, g1, _⟩, h2⟩ := h.own; exact ⟨F1, h1, fun k hk => h2 k (g1 k hk)⟩, h.bel, h.le⟩
theorem Has.right (h : Has B w wr (Star X Y)) : Has B w wr Y := h.comm.left
/-- X, Y, Z: Y, X, Z. -/
theorem Has.swap (h : Has B w wr (Star X (Star Y Z))) : Has B w wr (Star Y (Star X Z)) :=
  (h.assoc'.imp fun _ ⟨F1, F2, h1, h2, hd, g1, g2⟩ => (⟨F1, F2, Star.comm h1, h2, hd, g1, g2⟩ : Star (Star Y X) Z wr _)).assoc
theorem Star.under {w : World} {F : Nat → Prop} (hi : ∀ F, Y w F → Z w F) : Star X Y w F → Star X Z w F
  | ⟨F1, F2, h1, h2, hd, g1, g2⟩ => ⟨F1, F2, h1, hi F2 h2, hd, g1, g2⟩
theorem Star.swap {w : World} {F : Nat → Prop} (h : Star X (Star Y Z) w F) : Star Y (Star X Z) w F := by
  obtain ⟨F1, F2, h1, h2, hd, g1, g2⟩ := Star.assoc' h
  exact Star.assoc ⟨F1, F2, Star.comm h1, h2, hd, g1, g2⟩
/-- The third, the fourth, the fifth first. -/
theorem Has.r3 {X1 X2 X3 : Res} (h : Has B w wr (Star X1 (Star X2 (Star X3 Y)))) : Has B w wr (Star X3 (Star X1 (Star X2 Y))) := (h.imp fun _ => Star.under fun _ => Star.swap).swap
theorem Has.r4 {X1 X2 X3 X4 : Res} (h : Has B w wr (Star X1 (Star X2 (Star X3 (Star X4 Y))))) : Has B w wr (Star X4 (Star X1 (Star X2 (Star X3 Y)))) := (h.imp fun _ => Star.under fun _ => Star.under fun _ => Star.swap).r3
theorem Has.r5 {X1 X2 X3 X4 X5 : Res} (h : Has B w wr (Star X1 (Star X2 (Star X3 (Star X4 (Star X5 Y)))))) : Has B w wr (Star X5 (Star X1 (Star X2 (Star X3 (Star X4 Y))))) := (h.imp fun _ => Star.under fun _ => Star.under fun _ => Star.under fun _ => Star.swap).r4
theorem Has.stay [hX : Fr X] (h : Has B w wr X) (hb : Below wr.heap.size wr w') : Has B w w' X :=
  ⟨by obtain ⟨F, h1, h2⟩ := h.own; exact ⟨F, hX.keep h1 (fun k _ hk => hb.block k hk), h2⟩, h.bel.trans (hb.mono h.le), Nat.le_trans h.le hb.size⟩
/-- Something new beside it. -/
theorem Has.add [hX : Fr X] (h : Has B w wr X) (hb : Below wr.heap.size wr w') (hY : Y w' (fun k => wr.heap.size ≤ k)) : Has B w w' (Star Y X) := by
  obtain ⟨F, h1, h2⟩ := h.own
  refine ⟨⟨fun k => (F k ∧ k < wr.heap.size) ∨ wr.heap.size ≤ k, ⟨_, fun k => F k ∧ k < wr.heap.size, hY, hX.keep (hX.mono h1 (fun k hk hl => ⟨hk, hl⟩)) (fun k _ hk => hb.block k hk), fun k a b => by omega, fun k a => .inr a, fun k a => .inl a⟩, fun k hk => ?_⟩, h.bel.trans (hb.mono h.le), Nat.le_trans h.le hb.size⟩
  rcases hk with hk | hk
  · exact h2 k hk.1
  · exact Nat.le_trans h.le hk
theorem Has.goes1 (h : Has B w wr X) (hc : ∀ F, X wr F → Goes X' F wr w') : Has B w w' X' := by
  obtain ⟨F, h1, h2⟩ := h.own
  obtain ⟨g1, g2⟩ := hc F h1
  exact ⟨⟨_, g1, fun k hk => by rcases hk with hk | hk; exact h2 k hk; exact Nat.le_trans h.le hk⟩, h.bel.trans (g2.below h.le h2), Nat.le_trans h.le g2.size⟩
/-- THE FRAME: a call on one thing leaves the other. -/
theorem Has.call {P : Program} {f : FuncId} {args : Array Value} {R : Ending → World → Prop} [hY : Fr Y] (h : Has B w wr (Star X Y))
    (c : ∀ F, X wr F → Calls P f args wr fun e w' => R e w' ∧ Goes X' F wr w') : Calls P f args wr fun e w' => R e w' ∧ Has B w w' (Star X' Y) := by
  obtain ⟨F, ⟨F1, F2, h1, h2, hd, g1, g2⟩, h3⟩ := h.own
  refine (c F1 h1).mono fun e w' ⟨hr, x1, x2⟩ => ⟨hr, ⟨fun k => F k ∨ wr.heap.size ≤ k, ⟨_, fun k => F2 k ∧ k < wr.heap.size, x1, hY.keep (hY.mono h2 (fun k hk hl => ⟨hk, hl⟩)) (fun k hk hl => x2.block k hl (fun a => hd k a hk.1)), fun k a b => ?_, fun k a => ?_, fun k a => .inl (g2 k a.1)⟩, fun k hk => ?_⟩, h.bel.trans (x2.below h.le (fun k hk => h3 k (g1 k hk))), Nat.le_trans h.le x2.size⟩
  · rcases a with a | a
    · exact hd k a b.1
    · omega
  · rcases a with a | a
    · exact .inl (g1 k a)
    · exact .inr a
  · rcases hk with hk | hk
    · exact h3 k hk
    · exact Nat.le_trans h.le hk
/-- .. of a thing alone. -/
theorem Has.call1 {P : Program} {f : FuncId} {args : Array Value} {R : Ending → World → Prop} (h : Has B w wr X)
    (c : ∀ F, X wr F → Calls P f args wr fun e w' => R e w' ∧ Goes X' F wr w') : Calls P f args wr fun e w' => R e w' ∧ Has B w w' X' := by
  obtain ⟨F, h1, h3⟩ := h.own
  refine (c F h1).mono fun e w' ⟨hr, x1, x2⟩ => ⟨hr, ⟨_, x1, fun k hk => ?_⟩, h.bel.trans (x2.below h.le h3), Nat.le_trans h.le x2.size⟩
  rcases hk with hk | hk
  · exact h3 k hk
  · exact Nat.le_trans h.le hk
end
end Go.Proofs.Ytpononkgeeahdaa
