/-
  A block of cells as a thing of the law's own.
  Conditions: none. (My own text.)
-/
import Derived.Test.YtmbacegbcccdjaaDoorSp5
namespace Go.Proofs.YtmbacegbcccdjaaDoor
open Go.RowKit
set_option linter.unusedVariables false
set_option linter.unusedSimpArgs false

/-- A block of cells, as a thing. -/
def Cel (g : Nat) (T : TypeId) (cs : Array Value) : Res := fun w F => Blk w g T cs ∧ F g
instance fr_cel (g : Nat) (T : TypeId) (cs : Array Value) : Fr (Cel g T cs) := ⟨fun ⟨h, hf⟩ hk => ⟨(hk g hf h.lt).trans h, hf⟩, fun ⟨h, hf⟩ hm => ⟨h, hm g hf h.lt⟩⟩
section
variable {B : Nat} {w wr w' : World} {X X' Y : Res} {g : Nat} {T : TypeId} {cs : Array Value}
theorem Has.cel (h : Has B w wr (Star (Cel g T cs) Y)) : Blk wr g T cs := by
  obtain ⟨F, ⟨F1, F2, h1, _⟩, _⟩ := h.own
  exact h1.1
theorem Has.cel_ge (h : Has B w wr (Star (Cel g T cs) Y)) : B ≤ g := by
  obtain ⟨F, ⟨F1, F2, h1, _, _, g1, _⟩, hF⟩ := h.own
  exact hF g (g1 g h1.2)
/-- A step on one thing leaves the other. -/
theorem Has.turn [hY : Fr Y] (h : Has B w wr (Star X Y)) (c : ∀ F, X wr F → Goes X' F wr w') : Has B w w' (Star X' Y) := by
  obtain ⟨F, ⟨F1, F2, h1, h2, hd, g1, g2⟩, h3⟩ := h.own
  obtain ⟨x1, x2⟩ := c F1 h1
  refine ⟨⟨fun k => F k ∨ wr.heap.size ≤ k, ⟨_, fun k => F2 k ∧ k < wr.heap.size, x1, hY.keep (hY.mono h2 (fun k hk hl => ⟨hk, hl⟩)) (fun k hk hl => x2.block k hl (fun a => hd k a hk.1)), fun k a b => ?_, fun k a => ?_, fun k a => .inl (g2 k a.1)⟩, fun k hk => ?_⟩, h.bel.trans (x2.below h.le (fun k hk => h3 k (g1 k hk))), Nat.le_trans h.le x2.size⟩
  · rcases a with a | a
    · exact hd k a b.1
    · omega
  · rcases a with a | a
    · exact .inl (g1 k a)
    · exact .inr a
  · rcases hk with hk | hk
    · exact h3 k hk
    · exact Nat.le_trans h.le hk
theorem Has.newcel [Fr Y] (h : Has B w wr Y) (T : TypeId) (cs : Array Value) : Has B w (wr.alloc (.cells cs T)) (Star (Cel wr.heap.size T cs) Y) :=
  h.add ((Below.refl _ _).alloc (Nat.le_refl _) _) ⟨Blk.new _ _ _, Nat.le_refl _⟩
theorem Has.store [Fr Y] (h : Has B w wr (Star (Cel g T cs) Y)) (k : Nat) (v : Value) : Has B w (wr.setCell ⟨g, k, none⟩ v) (Star (Cel g T (cs.setIfInBounds k v)) Y) :=
  h.turn fun F ⟨h1, h2⟩ => ⟨⟨h1.set k v, .inl h2⟩, (Keeps.refl F wr).setCell (.inl h2) v⟩
theorem Has.drop [Fr Y] (h : Has B w wr (Star (Cel g T cs) Y)) (hk : Keeps (fun k => k = g) wr w') : Has B w w' Y :=
  (h.turn (X' := Emp) fun F ⟨_, h2⟩ => ⟨trivial, hk.mono fun k e => by subst e; exact h2⟩).right
theorem Has.emp {X1 X2 : Res} (h : Has B w wr (Star X1 (Star X2 Y))) : Has B w wr (Star X1 (Star X2 Emp)) :=
  h.imp fun _ => Star.under fun _ => Star.under fun _ _ => trivial
end

end Go.Proofs.YtmbacegbcccdjaaDoor
