/-
  Layer 5: acts as they come in, and what an act does.
  Layer 5: Does, and Played, of the law.
  What a law owns: things in memory, each with its blocks; apart from one another; what a call on one of them leaves of the others.
  Rows of cells that a law owns, or that came in; the frame rule where the other thing matters.
  Layer 5: Regions of the program.
  Layer 5: Copy of the program.
  Layer 5: the program's functions, at things that the law owns.
  Layer 5: how bytes, and an act by value, come in.
  Conditions: none. (My own text.)
-/
import Derived.Test.YtmbacegbcccdjaaDoorOpen
import Derived.Test.YtmbacegbcccdjaaDoorSp4
import Derived.Test.YtmbacegbcccdjaaDoorSp1
import Derived.Test.YtmbacegbcccdjaaDoorSp2
import Derived.Deep.LoopGhost
import Derived.Test.YtmbacegbcccdjaaDoorSp3
import Derived.Deep.AppendLies
namespace Go.Proofs.YtmbacegbcccdjaaDoor
open Go.ChangeShapes Go.WideShapes Go.ChangeAt Go.RowKit Go.Deep Spm
set_option linter.unusedVariables false
set_option linter.unusedSimpArgs false

structure Act where
  d : Int
  at_ : Int
  n : Int
  p : Int
  b : List UInt8

/-- A number as it may be. -/
def I64 (n : Int) : Prop := -9223372036854775808 ≤ n ∧ n ≤ 9223372036854775807
theorem i64_of {n : Int} (h : (Lit.int .i64 n).wf = true) : I64 n := by simp [Lit.wf, IntKind.min, IntKind.max, IntKind.signed, IntKind.bits] at h; unfold I64; omega
structure ActRng (x : Act) : Prop where
  at_ : I64 x.at_
  n : I64 x.n
  p : I64 x.p
  b : x.b.length ≤ maxLen

/-- What an act does to a space, and answers. -/
def doesS (L : List Rg) (x : Act) : List Rg × Int × Int :=
  if x.d = 1 then mapS L x.n x.p else
  if x.d = 2 then ((mapAtS L x.at_ x.n x.p).1, 0, (mapAtS L x.at_ x.n x.p).2) else
  if x.d = 3 then ((unmapS L x.at_).1, 0, (unmapS L x.at_).2) else
  if x.d = 4 then ((protectS L x.at_ x.p).1, 0, (protectS L x.at_ x.p).2) else
  if x.d = 5 then ((setS L x.at_ x.b 2).1, 0, (setS L x.at_ x.b 2).2) else
  if x.d = 6 then ((setS L x.at_ x.b 0).1, 0, (setS L x.at_ x.b 0).2) else
  if x.d = 7 then ((setS L x.at_ (bytesS x.n) 2).1, 0, (setS L x.at_ (bytesS x.n) 2).2) else
  if x.d = 8 then ((setS L x.at_ (bytesS x.n) 0).1, 0, (setS L x.at_ (bytesS x.n) 0).2) else (L, 0, 0)

theorem doesS_ok {L : List Rg} (h : Ok L) (x : Act) : Ok (doesS L x).1 := by
  unfold doesS
  split; · exact h.map _ _
  split; · exact h.mapAt _ _ _
  split; · exact h.unmap _
  split; · exact h.protect _ _
  split; · exact h.set _ _ _
  split; · exact h.set _ _ _
  split; · exact h.set _ _ _
  split; · exact h.set _ _ _
  exact h

def playS (L : List Rg) (l : List Act) : List Rg := l.foldl (fun L x => (doesS L x).1) L
theorem playS_ok {L : List Rg} (h : Ok L) : ∀ l : List Act, Ok (playS L l) := by
  intro l
  induction l generalizing L with
  | nil => exact h
  | cons x l ih => exact ih (doesS_ok h x)
theorem playS_snoc (L : List Rg) (l : List Act) (k : Nat) (x : Act) (h : l[k]? = some x) : playS L (l.take (k + 1)) = (doesS (playS L (l.take k)) x).1 := by
  obtain ⟨hk, he⟩ := List.getElem?_eq_some_iff.1 h
  rw [List.take_succ_eq_append_getElem hk, he]
  unfold playS
  rw [List.foldl_append]
  rfl

/-- An act, and where its bytes stand. -/
structure ActM where
  x : Act
  A : Option Addr
  c : Nat
def ActM.cells (m : ActM) : List Value := [.int .i64 m.x.d, .int .i64 m.x.at_, .int .i64 m.x.n, .int .i64 m.x.p, .slice m.A m.x.b.length m.c]
/-- Bytes that stand below block B. -/
def BytesAt (w : World) (B : Nat) (A : Option Addr) (b : List UInt8) : Prop := b ≠ [] → ∃ bb off, A = some ⟨bb, off, none⟩ ∧ bb < B ∧ ∀ j x, b[j]? = some x → w.cell? ⟨bb, off + j, none⟩ = some (byC x)
theorem BytesAt.src {w w1 : World} {B : Nat} {A : Option Addr} {b : List UInt8} (h : BytesAt w B A b) (hb : Below B w w1) : SrcB w1 A b := fun hn => by
  obtain ⟨bb, off, h1, h2, h3⟩ := h hn
  exact ⟨bb, off, h1, fun j x hj => (hb.cell (p := ⟨bb, off + j, none⟩) h2).trans (h3 j x hj)⟩
structure ActOk (w : World) (B : Nat) (m : ActM) : Prop where
  rng : ActRng m.x
  src : BytesAt w B m.A m.x.b

/-- Acts that stand below block B. -/
def ActsV (w : World) (B : Nat) (v : Value) (l : List ActM) : Prop :=
  (∃ A c, v = .slice A 0 c ∧ l = []) ∨ ∃ b off c, v = .slice (some ⟨b, off, none⟩) l.length c ∧ b < B ∧ l.length ≤ maxLen ∧ ∀ i m, l[i]? = some m → ActOk w B m ∧ ∀ j u, m.cells[j]? = some u → w.cell? ⟨b, off + i * 5 + j, none⟩ = some u

section
variable {H : Type} {enc : TypeId × Value → H} {w : World}
theorem slot_cell {w : World} {base : Nat} {a : Addr} {cs : List Value} (h : w.cells? base a 1 = some cs) : ∃ u, cs = [u] ∧ w.cell? a = some u := by
  obtain ⟨_, hcl, hat⟩ := World.cells?_some h
  match cs, hcl with
  | [u], _ =>
    refine ⟨u, rfl, ?_⟩
    have := hat 0 (by decide)
    have e : a.add 0 = a := by unfold Addr.add; split <;> simp_all
    rwa [e] at this

theorem byte_of {x : Int} (h : (Lit.int .u8 x).wf = true) : ∃ b : UInt8, Value.int .u8 x = byC b := by
  simp [Lit.wf, IntKind.min, IntKind.max, IntKind.signed, IntKind.bits] at h
  refine ⟨UInt8.ofNat x.toNat, ?_⟩
  unfold byC
  congr 1
  rw [UInt8.toNat_ofNat']
  omega

set_option maxRecDepth 100000 in
/-- A slice of bytes that came in. -/
theorem open_bytes {t : TypeId} {fuel : Nat} {u : Value} {y : DataW H × List MemPlace} (ht : Tryd.prog.underlying t = some (.slice 5)) (h : DataW.trod enc Tryd.prog w 0 (fun _ => true) true fuel t [u] = some y) :
    ∃ (A : Option Addr) (b : List UInt8) (c : Nat), u = .slice A b.length c ∧ b.length ≤ maxLen ∧ BytesAt w w.heap.size A b := by
  rcases DataW.trod_slice ht h with ⟨h0, _⟩ | ⟨a, len, cap, elems, rest, n, _, hcs, _, _, hl, hm, hel, hi, _, _⟩
  · obtain rfl : u = .slice none 0 0 := by simpa using h0
    exact ⟨none, [], 0, rfl, Nat.zero_le _, fun h => absurd rfl h⟩
  · obtain rfl : u = .slice (some a) len cap := by simpa using hcs
    have hC : Tryd.prog.cellsOf 5 = 1 := by kernel_rfl
    obtain ⟨l, hlen, hq⟩ := list_of (Q := fun i (x : UInt8) => w.cell? (a.add i) = some (byC x)) len (fun i him => by
      have h1 := hi i him
      rw [hC, Nat.mul_one, List.getElem?_eq_getElem (by omega)] at h1
      obtain ⟨cs, h2, h3⟩ := Option.bind_eq_some_iff.1 h1
      obtain ⟨v, rfl, h4⟩ := slot_cell h2
      obtain ⟨x, rfl, hx⟩ := int_cell Tryd.underlying5 h3
      obtain ⟨b, hb⟩ := byte_of hx
      exact ⟨b, by rw [h4, hb]⟩)
    refine ⟨some a, l, cap, by rw [hlen], by omega, fun hn => ?_⟩
    obtain ⟨x0, hx0⟩ : ∃ x, l[0]? = some x := ⟨l[0]'(by have := List.length_pos_iff.2 hn; omega), List.getElem?_eq_getElem _⟩
    have hspot : a.spot = none := World.cell?_spot (by simpa [Addr.add] using hq 0 x0 hx0)
    obtain ⟨b, off, spot⟩ := a
    simp only at hspot
    subst hspot
    refine ⟨b, off, rfl, ?_, fun j x hj => ?_⟩
    · have := hq 0 x0 hx0
      rw [Go.Addr.add_lit] at this
      exact World.block_lt_of_cell? _ _ this
    · have := hq j x hj
      rwa [Go.Addr.add_lit] at this

end
end Go.Proofs.YtmbacegbcccdjaaDoor

namespace Go.Proofs.YtmbacegbcccdjaaDoor
open Go.RowKit Spm
set_option linter.unusedVariables false
set_option linter.unusedSimpArgs false

section
variable {B : Nat} {w wr : World} {a : Nat} {L : List Rg}
end

theorem BytesAt.stay {w w1 : World} {B B1 : Nat} {A : Option Addr} {b : List UInt8} (h : BytesAt w B A b) (hb : Below B w w1) (hB : B ≤ B1) : BytesAt w1 B1 A b := fun hn => by
  obtain ⟨bb, off, h1, h2, h3⟩ := h hn
  exact ⟨bb, off, h1, Nat.lt_of_lt_of_le h2 hB, fun j x hj => (hb.cell (p := ⟨bb, off + j, none⟩) h2).trans (h3 j x hj)⟩
theorem ActsV.stay {w w1 : World} {B B1 : Nat} {v : Value} {l : List ActM} (h : ActsV w B v l) (hb : Below B w w1) (hB : B ≤ B1) : ActsV w1 B1 v l := by
  rcases h with h | ⟨b, off, c, rfl, h1, h2, h3⟩
  · exact .inl h
  · exact .inr ⟨b, off, c, rfl, Nat.lt_of_lt_of_le h1 hB, h2, fun i m hi => ⟨⟨(h3 i m hi).1.rng, (h3 i m hi).1.src.stay hb hB⟩, fun j u hu => (hb.cell (p := ⟨b, off + i * 5 + j, none⟩) h1).trans ((h3 i m hi).2 j u hu)⟩⟩
theorem ActsV.at_ {w : World} {B : Nat} {v : Value} {l : List ActM} (h : ActsV w B v l) : ∃ A c, v = .slice A l.length c ∧ l.length ≤ maxLen ∧ ∀ i m, l[i]? = some m → ∃ b off, A = some ⟨b, off, none⟩ ∧ b < B ∧ ActOk w B m ∧ ∀ j u, m.cells[j]? = some u → w.cell? ⟨b, off + i * 5 + j, none⟩ = some u := by
  rcases h with ⟨A, c, rfl, rfl⟩ | ⟨b, off, c, rfl, hb, hm, h⟩
  · exact ⟨A, c, rfl, Nat.zero_le _, fun i m hi => by simp at hi⟩
  · exact ⟨_, c, rfl, hm, fun i m hi => ⟨b, off, rfl, hb, h i m hi⟩⟩

end Go.Proofs.YtmbacegbcccdjaaDoor

namespace Go.Proofs.YtmbacegbcccdjaaDoor
open Go.RowKit
set_option linter.unusedVariables false

/-- A thing in memory, with its blocks. -/
abbrev Res := World → (Nat → Prop) → Prop
class Fr (X : Res) : Prop where
  keep : ∀ {w w' : World} {F : Nat → Prop}, X w F → (∀ k, F k → k < w.heap.size → w'.heap[k]? = w.heap[k]?) → X w' F
  mono : ∀ {w : World} {F G : Nat → Prop}, X w F → (∀ k, F k → k < w.heap.size → G k) → X w G

/-- Two things, apart. -/
def Star (X Y : Res) : Res := fun w F => ∃ F1 F2, X w F1 ∧ Y w F2 ∧ (∀ k, F1 k → ¬ F2 k) ∧ (∀ k, F1 k → F k) ∧ (∀ k, F2 k → F k)
def Emp : Res := fun _ _ => True
instance fr_emp : Fr Emp := ⟨fun _ _ => trivial, fun _ _ => trivial⟩

instance fr_star {X Y : Res} [hX : Fr X] [hY : Fr Y] : Fr (Star X Y) :=
  ⟨fun ⟨F1, F2, h1, h2, hd, g1, g2⟩ hk => ⟨F1, F2, hX.keep h1 (fun k hf => hk k (g1 k hf)), hY.keep h2 (fun k hf => hk k (g2 k hf)), hd, g1, g2⟩,
   fun {w F G} ⟨F1, F2, h1, h2, hd, g1, g2⟩ hm => ⟨fun k => F1 k ∧ k < w.heap.size, fun k => F2 k ∧ k < w.heap.size, hX.mono h1 (fun k hk hl => ⟨hk, hl⟩), hY.mono h2 (fun k hk hl => ⟨hk, hl⟩),
     fun k hk hk2 => hd k hk.1 hk2.1, fun k hk => hm k (g1 k hk.1) hk.2, fun k hk => hm k (g2 k hk.1) hk.2⟩⟩

theorem Star.comm {X Y : Res} {w : World} {F : Nat → Prop} : Star X Y w F → Star Y X w F
  | ⟨F1, F2, h1, h2, hd, g1, g2⟩ => ⟨F2, F1, h2, h1, fun k a b => hd k b a, g2, g1⟩
theorem Star.assoc {X Y Z : Res} {w : World} {F : Nat → Prop} : Star (Star X Y) Z w F → Star X (Star Y Z) w F
  | ⟨F1, F2, ⟨E1, E2, h1, h2, hd, g1, g2⟩, h3, hd2, g3, g4⟩ => ⟨E1, fun k => E2 k ∨ F2 k, h1, ⟨E2, F2, h2, h3, fun k a => hd2 k (g2 k a), fun _ a => .inl a, fun _ a => .inr a⟩,
      fun k a b => by rcases b with b | b; exact hd k a b; exact hd2 k (g1 k a) b, fun k a => g3 k (g1 k a), fun k a => by rcases a with a | a; exact g3 k (g2 k a); exact g4 k a⟩
theorem Star.assoc' {X Y Z : Res} {w : World} {F : Nat → Prop} : Star X (Star Y Z) w F → Star (Star X Y) Z w F
  | ⟨F1, F2, h1, ⟨E1, E2, h2, h3, hd, g1, g2⟩, hd2, g3, g4⟩ => ⟨fun k => F1 k ∨ E1 k, E2, ⟨F1, E1, h1, h2, fun k a b => hd2 k a (g1 k b), fun _ a => .inl a, fun _ a => .inr a⟩, h3,
      fun k a b => by rcases a with a | a; exact hd2 k a (g2 k b); exact hd k a b, fun k a => by rcases a with a | a; exact g3 k a; exact g4 k (g1 k a), fun k a => g4 k (g2 k a)⟩

/-- The law's own: all of it lies from block B on; below B all is as it was in w. -/
structure Has (B : Nat) (w wr : World) (X : Res) : Prop where
  own : ∃ F : Nat → Prop, X wr F ∧ ∀ k, F k → B ≤ k
  bel : Below B w wr
  le : B ≤ wr.heap.size

/-- What a call on a thing leaves: the thing, and what is new; all else as it was. -/
def Goes (X : Res) (F : Nat → Prop) (w w' : World) : Prop := X w' (fun k => F k ∨ w.heap.size ≤ k) ∧ Keeps F w w'

section
variable {B : Nat} {w wr w' : World} {X Y Z X' : Res}
theorem Has.start (hbel : Below B w wr) (hle : B ≤ wr.heap.size) : Has B w wr Emp := ⟨⟨fun _ => False, trivial, fun _ h => h.elim⟩, hbel, hle⟩
theorem Has.imp (h : Has B w wr X) (hi : ∀ F, X wr F → Y wr F) : Has B w wr Y := ⟨by obtain ⟨F, h1, h2⟩ := h.own; exact ⟨F, hi F h1, h2⟩, h.bel, h.le⟩
theorem Has.comm (h : Has B w wr (Star X Y)) : Has B w wr (Star Y X) := h.imp fun _ => Star.comm
theorem Has.assoc (h : Has B w wr (Star (Star X Y) Z)) : Has B w wr (Star X (Star Y Z)) := h.imp fun _ => Star.assoc
theorem Has.assoc' (h : Has B w wr (Star X (Star Y Z))) : Has B w wr (Star (Star X Y) Z) := h.imp fun _ => Star.assoc'
theorem Has.left (h : Has B w wr (Star X Y)) : Has B w wr X := ⟨by obtain ⟨F, ⟨F1, F2, h1, _, _, g1, _⟩, h2⟩ := h.own; exact ⟨F1, h1, fun k hk => h2 k (g1 k hk)⟩, h.bel, h.le⟩
theorem Has.right (h : Has B w wr (Star X Y)) : Has B w wr Y := h.comm.left
/-- X, Y, Z: Y, X, Z. -/
theorem Has.swap (h : Has B w wr (Star X (Star Y Z))) : Has B w wr (Star Y (Star X Z)) :=
  (h.assoc'.imp fun _ ⟨F1, F2, h1, h2, hd, g1, g2⟩ => (⟨F1, F2, Star.comm h1, h2, hd, g1, g2⟩ : Star (Star Y X) Z wr _)).assoc
theorem Star.under {w : World} {F : Nat → Prop} (hi : ∀ F, Y w F → Z w F) : Star X Y w F → Star X Z w F
  | ⟨F1, F2, h1, h2, hd, g1, g2⟩ => ⟨F1, F2, h1, hi F2 h2, hd, g1, g2⟩
theorem Star.swap {w : World} {F : Nat → Prop} (h : Star X (Star Y Z) w F) : Star Y (Star X Z) w F := by
  obtain ⟨F1, F2, h1, h2, hd, g1, g2⟩ := Star.assoc' h
  exact Star.assoc ⟨F1, F2, Star.comm h1, h2, hd, g1, g2⟩
/-- The third, the fourth, the fifth first. -/
theorem Has.r3 {X1 X2 X3 : Res} (h : Has B w wr (Star X1 (Star X2 (Star X3 Y)))) : Has B w wr (Star X3 (Star X1 (Star X2 Y))) := (h.imp fun _ => Star.under fun _ => Star.swap).swap
theorem Has.r4 {X1 X2 X3 X4 : Res} (h : Has B w wr (Star X1 (Star X2 (Star X3 (Star X4 Y))))) : Has B w wr (Star X4 (Star X1 (Star X2 (Star X3 Y)))) := (h.imp fun _ => Star.under fun _ => Star.under fun _ => Star.swap).r3
theorem Has.r5 {X1 X2 X3 X4 X5 : Res} (h : Has B w wr (Star X1 (Star X2 (Star X3 (Star X4 (Star X5 Y)))))) : Has B w wr (Star X5 (Star X1 (Star X2 (Star X3 (Star X4 Y))))) := (h.imp fun _ => Star.under fun _ => Star.under fun _ => Star.under fun _ => Star.swap).r4
theorem Has.stay [hX : Fr X] (h : Has B w wr X) (hb : Below wr.heap.size wr w') : Has B w w' X :=
  ⟨by obtain ⟨F, h1, h2⟩ := h.own; exact ⟨F, hX.keep h1 (fun k _ hk => hb.block k hk), h2⟩, h.bel.trans (hb.mono h.le), Nat.le_trans h.le hb.size⟩
/-- Something new beside it. -/
theorem Has.add [hX : Fr X] (h : Has B w wr X) (hb : Below wr.heap.size wr w') (hY : Y w' (fun k => wr.heap.size ≤ k)) : Has B w w' (Star Y X) := by
  obtain ⟨F, h1, h2⟩ := h.own
  refine ⟨⟨fun k => (F k ∧ k < wr.heap.size) ∨ wr.heap.size ≤ k, ⟨_, fun k => F k ∧ k < wr.heap.size, hY, hX.keep (hX.mono h1 (fun k hk hl => ⟨hk, hl⟩)) (fun k _ hk => hb.block k hk), fun k a b => by omega, fun k a => .inr a, fun k a => .inl a⟩, fun k hk => ?_⟩, h.bel.trans (hb.mono h.le), Nat.le_trans h.le hb.size⟩
  rcases hk with hk | hk
  · exact h2 k hk.1
  · exact Nat.le_trans h.le hk
theorem Has.goes1 (h : Has B w wr X) (hc : ∀ F, X wr F → Goes X' F wr w') : Has B w w' X' := by
  obtain ⟨F, h1, h2⟩ := h.own
  obtain ⟨g1, g2⟩ := hc F h1
  exact ⟨⟨_, g1, fun k hk => by rcases hk with hk | hk; exact h2 k hk; exact Nat.le_trans h.le hk⟩, h.bel.trans (g2.below h.le h2), Nat.le_trans h.le g2.size⟩
/-- THE FRAME: a call on one thing leaves the other. -/
theorem Has.call {P : Program} {f : FuncId} {args : Array Value} {R : Ending → World → Prop} [hY : Fr Y] (h : Has B w wr (Star X Y))
    (c : ∀ F, X wr F → Calls P f args wr fun e w' => R e w' ∧ Goes X' F wr w') : Calls P f args wr fun e w' => R e w' ∧ Has B w w' (Star X' Y) := by
  obtain ⟨F, ⟨F1, F2, h1, h2, hd, g1, g2⟩, h3⟩ := h.own
  refine (c F1 h1).mono fun e w' ⟨hr, x1, x2⟩ => ⟨hr, ⟨fun k => F k ∨ wr.heap.size ≤ k, ⟨_, fun k => F2 k ∧ k < wr.heap.size, x1, hY.keep (hY.mono h2 (fun k hk hl => ⟨hk, hl⟩)) (fun k hk hl => x2.block k hl (fun a => hd k a hk.1)), fun k a b => ?_, fun k a => ?_, fun k a => .inl (g2 k a.1)⟩, fun k hk => ?_⟩, h.bel.trans (x2.below h.le (fun k hk => h3 k (g1 k hk))), Nat.le_trans h.le x2.size⟩
  · rcases a with a | a
    · exact hd k a b.1
    · omega
  · rcases a with a | a
    · exact .inl (g1 k a)
    · exact .inr a
  · rcases hk with hk | hk
    · exact h3 k hk
    · exact Nat.le_trans h.le hk
/-- .. of a thing alone. -/
theorem Has.call1 {P : Program} {f : FuncId} {args : Array Value} {R : Ending → World → Prop} (h : Has B w wr X)
    (c : ∀ F, X wr F → Calls P f args wr fun e w' => R e w' ∧ Goes X' F wr w') : Calls P f args wr fun e w' => R e w' ∧ Has B w w' X' := by
  obtain ⟨F, h1, h3⟩ := h.own
  refine (c F h1).mono fun e w' ⟨hr, x1, x2⟩ => ⟨hr, ⟨_, x1, fun k hk => ?_⟩, h.bel.trans (x2.below h.le h3), Nat.le_trans h.le x2.size⟩
  rcases hk with hk | hk
  · exact h3 k hk
  · exact Nat.le_trans h.le hk
end
end Go.Proofs.YtmbacegbcccdjaaDoor

namespace Go.Proofs.YtmbacegbcccdjaaDoor
open Go.RowKit
set_option linter.unusedVariables false
set_option linter.unusedSimpArgs false

/-- Rows of cells, n a row, in blocks that P says. -/
def RowsAt {α : Type} (n : Nat) (cells : α → List Value) (w : World) (P : Nat → Prop) (v : Value) (l : List α) : Prop :=
  ∃ A c, v = .slice A l.length c ∧ l.length ≤ c ∧ c ≤ maxLen ∧ ∀ i x, l[i]? = some x → ∃ b off, A = some ⟨b, off, none⟩ ∧ P b ∧ b < w.heap.size ∧ ∀ j u, (cells x)[j]? = some u → w.cell? ⟨b, off + i * n + j, none⟩ = some u
theorem RowsAt.keep {α : Type} {n : Nat} {cells : α → List Value} {w w' : World} {P : Nat → Prop} {v : Value} {l : List α} (h : RowsAt n cells w P v l) (hk : ∀ k, P k → k < w.heap.size → w'.heap[k]? = w.heap[k]?) : RowsAt n cells w' P v l := by
  obtain ⟨A, c, h1, h2, h3, h4⟩ := h
  refine ⟨A, c, h1, h2, h3, fun i x hx => ?_⟩
  obtain ⟨b, off, k1, k2, k3, k4⟩ := h4 i x hx
  have hb := hk b k2 k3
  refine ⟨b, off, k1, k2, ?_, fun j u hu => ?_⟩
  · rcases Nat.lt_or_ge b w'.heap.size with h | h
    · exact h
    · rw [Array.getElem?_eq_none h, Array.getElem?_eq_getElem k3] at hb; cases hb
  · rw [World.cell?_of_block (a := ⟨b, off + i * n + j, none⟩) hb]; exact k4 j u hu
theorem RowsAt.mono {α : Type} {n : Nat} {cells : α → List Value} {w : World} {P G : Nat → Prop} {v : Value} {l : List α} (h : RowsAt n cells w P v l) (hm : ∀ k, P k → k < w.heap.size → G k) : RowsAt n cells w G v l := by
  obtain ⟨A, c, h1, h2, h3, h4⟩ := h
  refine ⟨A, c, h1, h2, h3, fun i x hx => ?_⟩
  obtain ⟨b, off, k1, k2, k3, k4⟩ := h4 i x hx
  exact ⟨b, off, k1, hm b k2 k3, k3, k4⟩
/-- Rows, as a thing. -/
def Rw {α : Type} (n : Nat) (cells : α → List Value) (v : Value) (l : List α) : Res := fun w F => RowsAt n cells w F v l
instance fr_rw {α : Type} (n : Nat) (cells : α → List Value) (v : Value) (l : List α) : Fr (Rw n cells v l) := ⟨fun h hk => h.keep hk, fun h hm => h.mono hm⟩
/-- .. that stand in a block of cells, known whole. -/
theorem RowsAt.of_blk {α : Type} {n : Nat} {cells : α → List Value} {w : World} {b : Nat} {T : TypeId} {cs : Array Value} {l : List α} (hb : Blk w b T cs) (hm : l.length ≤ maxLen)
    (h : ∀ i x, l[i]? = some x → ∀ j u, (cells x)[j]? = some u → cs[i * n + j]? = some u) {P : Nat → Prop} (hP : P b) : RowsAt n cells w P (.slice (some ⟨b, 0, none⟩) l.length l.length) l :=
  ⟨_, _, rfl, Nat.le_refl _, hm, fun i x hx => ⟨b, 0, rfl, hP, hb.lt, fun j u hu => by rw [hb.cell, Nat.zero_add]; exact h i x hx j u hu⟩⟩

/-- THE FRAME, where what the other thing is matters. -/
theorem Has.callY {B : Nat} {w wr : World} {X Y X' : Res} {P : Program} {f : FuncId} {args : Array Value} {R : Ending → World → Prop} [hY : Fr Y] (h : Has B w wr (Star X Y))
    (c : ∀ F G, X wr F → Y wr G → (∀ k, F k → ¬ G k) → (∀ k, F k → B ≤ k) → Calls P f args wr fun e w' => R e w' ∧ Goes X' F wr w') : Calls P f args wr fun e w' => R e w' ∧ Has B w w' (Star X' Y) := by
  obtain ⟨F, ⟨F1, F2, h1, h2, hd, g1, g2⟩, h3⟩ := h.own
  have hh : Has B w wr (Star (fun w' F' => X w' F' ∧ w' = wr ∧ ∀ k, F' k ↔ F1 k) Y) := ⟨⟨F, ⟨F1, F2, ⟨h1, rfl, fun k => Iff.rfl⟩, h2, hd, g1, g2⟩, h3⟩, h.bel, h.le⟩
  refine (c F1 F2 h1 h2 hd (fun k hk => h3 k (g1 k hk))).mono fun e w' ⟨hr, x1, x2⟩ => ⟨hr, ⟨fun k => F k ∨ wr.heap.size ≤ k, ⟨_, fun k => F2 k ∧ k < wr.heap.size, x1, hY.keep (hY.mono h2 (fun k hk hl => ⟨hk, hl⟩)) (fun k hk hl => x2.block k hl (fun a => hd k a hk.1)), fun k a b => ?_, fun k a => ?_, fun k a => .inl (g2 k a.1)⟩, fun k hk => ?_⟩, h.bel.trans (x2.below h.le (fun k hk => h3 k (g1 k hk))), Nat.le_trans h.le x2.size⟩
  · rcases a with a | a
    · exact hd k a b.1
    · omega
  · rcases a with a | a
    · exact .inl (g1 k a)
    · exact .inr a
  · rcases hk with hk | hk
    · exact h3 k hk
    · exact Nat.le_trans h.le hk

/-- Rows that stand where a thing does not. -/
def Away {α : Type} (n : Nat) (cells : α → List Value) (v : Value) (l : List α) (B : Nat) (wr : World) (Y : Res) : Prop := ∀ F G : Nat → Prop, Y wr G → (∀ k, F k → ¬ G k) → (∀ k, F k → B ≤ k) → RowsAt n cells wr (fun k => ¬ F k) v l
theorem Away.own {α : Type} {n : Nat} {cells : α → List Value} {v : Value} {l : List α} {B : Nat} {wr : World} {Z : Res} : Away n cells v l B wr (Star (Rw n cells v l) Z) :=
  fun F G ⟨F1, F2, h1, h2, hd, g1, g2⟩ hG _ => h1.mono fun k hk _ hf => hG k hf (g1 k hk)
theorem Away.right {α : Type} {n : Nat} {cells : α → List Value} {v : Value} {l : List α} {B : Nat} {wr : World} {Y Z : Res} (h : Away n cells v l B wr Z) : Away n cells v l B wr (Star Y Z) :=
  fun F G ⟨F1, F2, h1, h2, hd, g1, g2⟩ hG hB => h F F2 h2 (fun k hf h => hG k hf (g2 k h)) hB
theorem Away.below {α : Type} {n : Nat} {cells : α → List Value} {v : Value} {l : List α} {B : Nat} {w wr : World} {Y : Res} (h : RowsAt n cells w (fun k => k < B) v l) (hb : Below B w wr) : Away n cells v l B wr Y :=
  fun F G _ _ hB => (h.keep (fun k hk _ => hb.block k hk)).mono fun k hk _ hf => by have := hB k hf; omega
theorem Away.nil {α : Type} {n : Nat} {cells : α → List Value} {B : Nat} {wr : World} {Y : Res} : Away n cells (.slice none 0 0) ([] : List α) B wr Y :=
  fun F G _ _ _ => ⟨none, 0, rfl, Nat.le_refl _, Nat.zero_le _, fun i x hx => by simp at hx⟩

theorem flat_get {α : Type} {n : Nat} {cells : α → List Value} (hc : ∀ x, (cells x).length = n) : ∀ (l : List α) (i : Nat) (x : α), l[i]? = some x → ∀ (j : Nat) (u : Value), (cells x)[j]? = some u → (l.flatMap cells)[i * n + j]? = some u
  | [], i, x, h => by simp at h
  | y :: l, 0, x, h => fun j u hu => by
    simp at h; subst h
    rw [List.flatMap_cons, List.getElem?_append_left (by have := (List.getElem?_eq_some_iff.1 hu).1; omega)]
    simpa using hu
  | y :: l, i + 1, x, h => fun j u hu => by
    have e : (i + 1) * n + j - n = i * n + j := by rw [Nat.add_mul, Nat.one_mul]; omega
    have e2 : n ≤ (i + 1) * n + j := by rw [Nat.add_mul, Nat.one_mul]; omega
    rw [List.flatMap_cons, List.getElem?_append_right (by rw [hc]; exact e2), hc, e]
    exact flat_get hc l i x (by simpa using h) j u hu
/-- A block of rows, made anew. -/
theorem Has.row {α : Type} {B : Nat} {w wr : World} {Y : Res} [Fr Y] (h : Has B w wr Y) (n : Nat) (cells : α → List Value) (hc : ∀ x, (cells x).length = n) (l : List α) (hm : l.length ≤ maxLen) (cs : Array Value) (T : TypeId) (hcs : cs.toList = l.flatMap cells) :
    Has B w (wr.alloc (.cells cs T)) (Star (Rw n cells (.slice (some ⟨wr.heap.size, 0, none⟩) l.length l.length) l) Y) :=
  h.add ((Below.refl _ _).alloc (Nat.le_refl _) _) (RowsAt.of_blk (Blk.new wr T cs) hm (fun i x hx j u hu => by
    have := flat_get hc l i x hx j u hu
    rw [← hcs] at this
    simpa using this) (Nat.le_refl _))

end Go.Proofs.YtmbacegbcccdjaaDoor

namespace Go.Proofs.YtmbacegbcccdjaaDoor
open Go.RowKit Spm
set_option linter.unusedVariables false
set_option linter.unusedSimpArgs false

/-- A region as it is told: three cells. -/
def rg3 (r : Rg) : List Value := [.int .i64 r.at_, .int .i64 r.sz, .int .i64 r.pm]
theorem regs_snoc (L : List Rg) (k : Nat) (r : Rg) (h : L[k]? = some r) : (L.take (k + 1)).flatMap rg3 = (L.take k).flatMap rg3 ++ rg3 r := by
  obtain ⟨hk, he⟩ := List.getElem?_eq_some_iff.1 h
  rw [List.take_succ_eq_append_getElem hk, List.flatMap_append, he]
  simp
end Go.Proofs.YtmbacegbcccdjaaDoor

namespace Go.Proofs.YtmbacegbcccdjaaDoor
open Go.RowKit Spm
set_option linter.unusedVariables false
set_option linter.unusedSimpArgs false

/-- One more region behind the others. -/
theorem Spc.push {ts tr : TypeId} {w w2 : World} {a g H : Nat} {v v' : Value} {Q : List RowP} {q : RowP} (h : Spc ts tr w a v Q) (hb : Bys w 0 (byV q) q.1.bs) (hfresh : q.2.1 ∉ foot a v Q)
    (h1 : w2.ownsRow 0 tr 4 v' (Q.length + 1) (Q.flatMap rgC ++ rgC q)) (hv' : v'.ownBlock = some g) (h2 : v.ownBlock = some g ∨ g = H) (hH : w.heap.size ≤ H)
    (h3 : Keeps (fun k => v.ownBlock = some k) w w2) :
    Spc ts tr (w2.setCell ⟨a, 0, none⟩ v') a v' (Q ++ [q]) ∧ (∀ k ∈ foot a v' (Q ++ [q]), k ∈ foot a v Q ∨ k = q.2.1 ∨ k = H) := by
  have hqlt : q.2.1 < w.heap.size := (hb.lt _ rfl).2
  have hga : g ≠ a := by
    rcases h2 with h2 | h2
    · exact fun e => nodup_av h.nd h2 e.symm
    · have := h.lt a foot_a; omega
  have hgq : g ≠ q.2.1 := by
    rcases h2 with h2 | h2
    · exact fun e => hfresh (e ▸ foot_v h2)
    · omega
  have hgQ : ∀ x ∈ Q, g ≠ x.2.1 := fun x hx => by
    rcases h2 with h2 | h2
    · exact fun e => nodup_v h.nd hx h2 e
    · have := h.lt _ (foot_q hx); omega
  have hqa : q.2.1 ≠ a := fun e => hfresh (e ▸ foot_a)
  have hqn : v.ownBlock ≠ some q.2.1 := fun e => hfresh (foot_v e)
  have f1 : (foot a v' (Q ++ [q])).Nodup := by
    have hnd := h.nd
    unfold foot at hnd ⊢
    rw [hv']
    obtain ⟨n1, n2⟩ := List.nodup_cons.1 hnd
    obtain ⟨n3, n4, n5⟩ := List.nodup_append.1 n2
    rw [List.nodup_cons]
    refine ⟨fun hm => ?_, ?_⟩
    · rcases List.mem_append.1 hm with hm | hm
      · have h5 : a = g := by simpa using hm
        exact hga h5.symm
      · rw [List.map_append] at hm
        rcases List.mem_append.1 hm with hm | hm
        · exact n1 (List.mem_append_right _ hm)
        · have h5 : a = q.2.1 := by simpa using hm
          exact hqa h5.symm
    · rw [List.nodup_append]
      refine ⟨by simp, ?_, fun x hx y hy e => ?_⟩
      · rw [List.map_append, List.nodup_append]
        refine ⟨n4, by simp, fun x hx y hy e => ?_⟩
        have hy' : y = q.2.1 := by simpa using hy
        obtain ⟨z, hz, rfl⟩ := List.mem_map.1 hx
        exact hfresh (by rw [← hy', ← e]; exact foot_q hz)
      · have hx' : x = g := by simpa using hx
        rw [List.map_append] at hy
        rcases List.mem_append.1 hy with hy | hy
        · obtain ⟨z, hz, rfl⟩ := List.mem_map.1 hy
          exact hgQ z hz (by rw [← hx', e])
        · have hy' : y = q.2.1 := by simpa using hy
          exact hgq (by rw [← hx', e, hy'])
  refine ⟨⟨?_, ?_, ?_, f1⟩, fun k hk => ?_⟩
  · have hba : Blk w2 a ts #[v] := h.box.keeps h3 (fun e => nodup_av h.nd e rfl)
    have := hba.set 0 v'
    simpa using this
  · rw [List.flatMap_append, List.length_append]
    refine owns_block (by simpa using h1) (fun k hk => Below.heap_setCell _ _ _ _ (fun e => ?_))
    rw [hv'] at hk
    exact hga ((Option.some.inj hk).trans e)
  · intro x hx
    have hkx : ∀ k, k < w.heap.size → k ≠ a → v.ownBlock ≠ some k → (w2.setCell ⟨a, 0, none⟩ v').heap[k]? = w.heap[k]? := fun k hk h4 h5 => (Below.heap_setCell _ _ _ _ h4).trans (h3.block k hk h5)
    rcases List.mem_append.1 hx with hx | hx
    · refine owns_block (h.each x hx) (fun k hk => ?_)
      have hk' : x.2.1 = k := by simpa [byV, Value.ownBlock] using hk
      subst hk'
      exact hkx _ (h.lt _ (foot_q hx)) (fun e => nodup_a h.nd hx e.symm) (fun e => nodup_v h.nd hx e rfl)
    · have hx' : x = q := by simpa using hx
      subst hx'
      refine owns_block hb (fun k hk => ?_)
      have hk' : x.2.1 = k := by simpa [byV, Value.ownBlock] using hk
      subst hk'
      exact hkx _ hqlt hqa hqn
  · unfold foot at hk
    rw [hv'] at hk
    rcases List.mem_cons.1 hk with rfl | hk
    · exact .inl foot_a
    · rcases List.mem_append.1 hk with hk | hk
      · have hk' : k = g := by simpa using hk
        subst hk'
        rcases h2 with h2 | h2
        · exact .inl (foot_v h2)
        · exact .inr (.inr h2)
      · rw [List.map_append] at hk
        rcases List.mem_append.1 hk with hk | hk
        · obtain ⟨z, hz, rfl⟩ := List.mem_map.1 hk
          exact .inl (foot_q hz)
        · exact .inr (.inl (by simpa using hk))

theorem owns_some {w : World} {base : Nat} {e : TypeId} {size n : Nat} {v : Value} {xs : List Value} (h : w.ownsRow base e size v n xs) (hv : v ≠ .slice none 0 0) : ∃ g c, v = .slice (some ⟨g, 0, none⟩) n c ∧ base ≤ g := by
  rcases h.2 with ⟨h1, _⟩ | ⟨g, cap, cur, hv', hb, _⟩
  · exact absurd h1 hv
  · exact ⟨g, cap, hv', hb⟩

end Go.Proofs.YtmbacegbcccdjaaDoor

namespace Go.Proofs.YtmbacegbcccdjaaDoor
open Go.RowKit Spm
set_option linter.unusedVariables false
set_option linter.unusedSimpArgs false

theorem fr_row {base : Nat} {T : TypeId} {size n : Nat} {v : Value} {xs : List Value} : Fr (fun w F => w.ownsRow base T size v n xs ∧ ∀ g, v.ownBlock = some g → F g) :=
  ⟨fun ⟨h, hf⟩ hk => ⟨owns_block h (fun g hg => hk g (hf g hg) (h.lt g hg).2), hf⟩, fun ⟨h, hf⟩ hm => ⟨h, fun g hg => hm g (hf g hg) (h.lt g hg).2⟩⟩
/-- Bytes. -/
def Bt (v : Value) (l : List UInt8) : Res := fun w F => Bys w 0 v l ∧ ∀ g, v.ownBlock = some g → F g
instance fr_bt (v : Value) (l : List UInt8) : Fr (Bt v l) := fr_row
section
variable {B : Nat} {w wr w' : World} {a : Nat} {L : List Rg} {Y : Res}
theorem Has.bytes [hY : Fr Y] (h : Has B w wr Y) {v : Value} {l : List UInt8} (hb : Bys w' wr.heap.size v l) (hbel : Below wr.heap.size wr w') : Has B w w' (Star (Bt v l) Y) :=
  h.add hbel ⟨owns_mono hb (Nat.zero_le _), fun g hg => (hb.lt g hg).1⟩
theorem Has.bt {v : Value} {l : List UInt8} (h : Has B w wr (Star (Bt v l) Y)) : Bys wr 0 v l := by
  obtain ⟨F, ⟨F1, F2, h1, _⟩, _⟩ := h.own
  exact h1.1
/-! The acts. -/
/-! What is asked. -/
end

/-! Bytes as a string. -/
def strB (l : List UInt8) : ByteArray := ⟨l.toArray⟩
theorem conv_src {w : World} {A : Option Addr} {b : List UInt8} {c : Nat} (h : SrcB w A b) : (convert 31 9 (.slice A b.length c)).run Tryd.prog w = .ok (.string (strB b)) w := by
  cases b with
  | nil =>
    rw [run_convert_bytes_string w _ _ _ A _ c Tryd.underlying31 Tryd.underlying5 Tryd.underlying9]
    cases A <;> simp [Conv.bytesToString, loadCells]
    all_goals rfl
  | cons x b =>
    obtain ⟨bb, off, rfl, hc⟩ := h (by simp)
    refine run_convert_bytes_back w _ _ _ ⟨bb, off, none⟩ c (x :: b) Tryd.underlying31 Tryd.underlying5 Tryd.underlying9 (fun j hj => ?_)
    rw [Addr.add_lit]
    exact hc j _ (List.getElem?_eq_getElem hj)
theorem Bys.src {w : World} {base : Nat} {v : Value} {l : List UInt8} (h : Bys w base v l) : ∃ A c, v = .slice A l.length c ∧ c ≤ maxLen ∧ SrcB w A l := by
  rcases h.2 with ⟨hv, hn⟩ | ⟨g, cap, cur, hv, hb, hg, hl, hm, hs, ht⟩
  · exact ⟨none, 0, by rw [hv, hn], Nat.zero_le _, fun hne => absurd (List.eq_nil_of_length_eq_zero hn) hne⟩
  · refine ⟨some ⟨g, 0, none⟩, cap, hv, hm, fun _ => ⟨g, 0, rfl, fun j x hj => ?_⟩⟩
    have := h.cells (g := g) (by rw [hv]; rfl) j (byC x) (by rw [List.getElem?_map, hj]; rfl)
    rwa [Addr.add_lit] at this
theorem Bys.src' {w : World} {base : Nat} {v : Value} {l : List UInt8} (h : Bys w base v l) : ∃ A c, v = .slice A l.length c ∧ l.length ≤ c ∧ c ≤ maxLen ∧ SrcB w A l := by
  obtain ⟨A, c, h1, h2, h3⟩ := h.src
  refine ⟨A, c, h1, ?_, h2, h3⟩
  rcases h.2 with ⟨hv, hn⟩ | ⟨g, cap, cur, hv, hb, hg, hl, hm, hs, ht⟩
  · omega
  · rw [hv] at h1
    simp only [Value.slice.injEq] at h1
    omega
theorem Bys.conv {w : World} {base : Nat} {v : Value} {l : List UInt8} (h : Bys w base v l) : (convert 31 9 v).run Tryd.prog w = .ok (.string (strB l)) w := by
  obtain ⟨A, c, rfl, _, hs⟩ := h.src
  exact conv_src hs

/-! The same regions. -/
end Go.Proofs.YtmbacegbcccdjaaDoor

namespace Go.Proofs.YtmbacegbcccdjaaDoor
open Go.ChangeShapes Go.WideShapes Go.ChangeAt Go.RowKit Go.Deep Spm
set_option linter.unusedVariables false
set_option linter.unusedSimpArgs false
section
variable {H : Type} {enc : TypeId × Value → H} {w : World}
set_option maxRecDepth 100000 in
theorem open_bytesT {t : TypeId} {r : Reach} {b0 : Nat} {v : Value} {d : DataW H} {p : List MemPlace} (ht : Tryd.prog.underlying t = some (.slice 5)) (hv : Value.okWide Tryd.prog w r b0 t v)
    (h : DataW.Trod enc Tryd.prog w 0 (fun _ => true) true t v d p) : ∃ (A : Option Addr) (b : List UInt8) (c : Nat), v = .slice A b.length c ∧ b.length ≤ maxLen ∧ BytesAt w w.heap.size A b := by
  obtain ⟨a0, len0, cap0, rfl⟩ := okWide_slice ht hv
  obtain ⟨fuel, hf⟩ := h
  exact open_bytes ht (by simpa [Value.cells] using hf)
end
end Go.Proofs.YtmbacegbcccdjaaDoor
