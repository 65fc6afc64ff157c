/-
  Layer 5: acts as they come in, and what an act does.
  Conditions: none. (My own text.)
-/
import Derived.Test.YtpononkgeeahdaaOpen
import Derived.Test.YtpononkgeeahdaaSpu
namespace Go.Proofs.Ytpononkgeeahdaa
open Go.ChangeShapes Go.WideShapes Go.ChangeAt Go.RowKit Go.Deep Spm
set_option linter.unusedVariables false
set_option linter.unusedSimpArgs false

structure Act where
  d : Int
  at_ : Int
  n : Int
  p : Int
  b : List UInt8

/-- A number as it may be. -/
def I64 (n : Int) : Prop := -9223372036854775808 ≤ n ∧ n ≤ 9223372036854775807
theorem i64_of {n : Int} (h : (Lit.int .i64 n).wf = true) : I64 n := by simp [Lit.wf, IntKind.min, IntKind.max, IntKind.signed, IntKind.bits] at h; unfold I64; omega
structure ActRng (x : Act) : Prop where
  at_ : I64 x.at_
  n : I64 x.n
  p : I64 x.p
  b : x.b.length ≤ maxLen

/-- What an act does to a space, and answers. -/
def doesS (L : List Rg) (x : Act) : List Rg × Int × Int :=
  if x.d = 1 then mapS L x.n x.p else
  if x.d = 2 then ((mapAtS L x.at_ x.n x.p).1, 0, (mapAtS L x.at_ x.n x.p).2) else
  if x.d = 3 then ((unmapS L x.at_).1, 0, (unmapS L x.at_).2) else
  if x.d = 4 then ((protectS L x.at_ x.p).1, 0, (protectS L x.at_ x.p).2) else
  if x.d = 5 then ((setS L x.at_ x.b 2).1, 0, (setS L x.at_ x.b 2).2) else
  if x.d = 6 then ((setS L x.at_ x.b 0).1, 0, (setS L x.at_ x.b 0).2) else
  if x.d = 7 then ((setS L x.at_ (bytesS x.n) 2).1, 0, (setS L x.at_ (bytesS x.n) 2).2) else
  if x.d = 8 then ((setS L x.at_ (bytesS x.n) 0).1, 0, (setS L x.at_ (bytesS x.n) 0).2) else (L, 0, 0)

theorem doesS_ok {L : List Rg} (h : Ok L) (x : Act) : Ok (doesS L x).1 := by
  unfold doesS
  split; · exact h.map _ _
  split; · exact h.mapAt _ _ _
  split; · exact h.unmap _
  split; · exact h.protect _ _
  split; · exact h.set _ _ _
  split; · exact h.set _ _ _
  split; · exact h.set _ _ _
  split; · exact h.set _ _ _
  exact h

def playS (L : List Rg) (l : List Act) : List Rg := l.foldl (fun L x => (doesS L x).1) L
theorem playS_ok {L : List Rg} (h : Ok L) : ∀ l : List Act, Ok (playS L l) := by
  intro l
  induction l generalizing L with
  | nil => exact h
  | cons x l ih => exact ih (doesS_ok h x)
theorem playS_snoc (L : List Rg) (l : List Act) (k : Nat) (x : Act) (h : l[k]? = some x) : playS L (l.take (k + 1)) = (doesS (playS L (l.take k)) x).1 := by
  obtain ⟨hk, he⟩ := List.getElem?_eq_some_iff.1 h
  rw [List.take_succ_eq_append_getElem hk, he]
  unfold playS
  rw [List.foldl_append]
  rfl

/-- An act, and where its bytes stand. -/
structure ActM where
  x : Act
  A : Option Addr
  c : Nat
def ActM.cells (m : ActM) : List Value := [.int .i64 m.x.d, .int .i64 m.x.at_, .int .i64 m.x.n, .int .i64 m.x.p, .slice m.A m.x.b.length m.c]
/-- Bytes that stand below block B. -/
def BytesAt (w : World) (B : Nat) (A : Option Addr) (b : List UInt8) : Prop := b ≠ [] → ∃ bb off, A = some ⟨bb, off, none⟩ ∧ bb < B ∧ ∀ j x, b[j]? = some x → w.cell? ⟨bb, off + j, none⟩ = some (byC x)
theorem BytesAt.src {w w1 : World} {B : Nat} {A : Option Addr} {b : List UInt8} (h : BytesAt w B A b) (hb : Below B w w1) : SrcB w1 A b := fun hn => by
  obtain ⟨bb, off, h1, h2, h3⟩ := h hn
  exact ⟨bb, off, h1, fun j x hj => (hb.cell (p := ⟨bb, off + j, none⟩) h2).trans (h3 j x hj)⟩
structure ActOk (w : World) (B : Nat) (m : ActM) : Prop where
  rng : ActRng m.x
  src : BytesAt w B m.A m.x.b

/-- Acts that stand below block B. -/
def ActsV (w : World) (B : Nat) (v : Value) (l : List ActM) : Prop :=
  (∃ A c, v = .slice A 0 c ∧ l = []) ∨ ∃ b off c, v = .slice (some ⟨b, off, none⟩) l.length c ∧ b < B ∧ l.length ≤ maxLen ∧ ∀ i m, l[i]? = some m → ActOk w B m ∧ ∀ j u, m.cells[j]? = some u → w.cell? ⟨b, off + i * 5 + j, none⟩ = some u

section
variable {H : Type} {enc : TypeId × Value → H} {w : World}
theorem slot_cell {w : World} {base : Nat} {a : Addr} {cs : List Value} (h : w.cells? base a 1 = some cs) : ∃ u, cs = [u] ∧ w.cell? a = some u := by
  obtain ⟨_, hcl, hat⟩ := World.cells?_some h
  match cs, hcl with
  | [u], _ =>
    refine ⟨u, rfl, ?_⟩
    have := hat 0 (by decide)
    have e : a.add 0 = a := by unfold Addr.add; split <;> simp_all
    rwa [e] at this

theorem byte_of {x : Int} (h : (Lit.int .u8 x).wf = true) : ∃ b : UInt8, Value.int .u8 x = byC b := by
  simp [Lit.wf, IntKind.min, IntKind.max, IntKind.signed, IntKind.bits] at h
  refine ⟨UInt8.ofNat x.toNat, ?_⟩
  unfold byC
  congr 1
  rw [UInt8.toNat_ofNat']
  omega

set_option maxRecDepth 100000 in
/-- A slice of bytes that came in. -/
theorem open_bytes {t : TypeId} {fuel : Nat} {u : Value} {y : DataW H × List MemPlace} (ht : Try.prog.underlying t = some (.slice 5)) (h : DataW.trod enc Try.prog w 0 (fun _ => true) true fuel t [u] = some y) :
    ∃ (A : Option Addr) (b : List UInt8) (c : Nat), u = .slice A b.length c ∧ b.length ≤ maxLen ∧ BytesAt w w.heap.size A b := by
  rcases DataW.trod_slice ht h with ⟨h0, _⟩ | ⟨a, len, cap, elems, rest, n, _, hcs, _, _, hl, hm, hel, hi, _, _⟩
  · obtain rfl : u = .slice none 0 0 := by simpa using h0
    exact ⟨none, [], 0, rfl, Nat.zero_le _, fun h => absurd rfl h⟩
  · obtain rfl : u = .slice (some a) len cap := by simpa using hcs
    have hC : Try.prog.cellsOf 5 = 1 := by kernel_rfl
    obtain ⟨l, hlen, hq⟩ := list_of (Q := fun i (x : UInt8) => w.cell? (a.add i) = some (byC x)) len (fun i him => by
      have h1 := hi i him
      rw [hC, Nat.mul_one, List.getElem?_eq_getElem (by omega)] at h1
      obtain ⟨cs, h2, h3⟩ := Option.bind_eq_some_iff.1 h1
      obtain ⟨v, rfl, h4⟩ := slot_cell h2
      obtain ⟨x, rfl, hx⟩ := int_cell Try.underlying5 h3
      obtain ⟨b, hb⟩ := byte_of hx
      exact ⟨b, by rw [h4, hb]⟩)
    refine ⟨some a, l, cap, by rw [hlen], by omega, fun hn => ?_⟩
    obtain ⟨x0, hx0⟩ : ∃ x, l[0]? = some x := ⟨l[0]'(by have := List.length_pos_iff.2 hn; omega), List.getElem?_eq_getElem _⟩
    have hspot : a.spot = none := World.cell?_spot (by simpa [Addr.add] using hq 0 x0 hx0)
    obtain ⟨b, off, spot⟩ := a
    simp only at hspot
    subst hspot
    refine ⟨b, off, rfl, ?_, fun j x hj => ?_⟩
    · have := hq 0 x0 hx0
      rw [Go.Addr.add_lit] at this
      exact World.block_lt_of_cell? _ _ this
    · have := hq j x hj
      rwa [Go.Addr.add_lit] at this

set_option maxRecDepth 100000 in
theorem open_acts {t : TypeId} {r : Reach} {b0 : Nat} {v : Value} {d : DataW H} {p : List MemPlace} (ht : Try.prog.underlying t = some (.slice 74)) (hv : Value.okWide Try.prog w r b0 t v)
    (h : DataW.Trod enc Try.prog w 0 (fun _ => true) true t v d p) : ∃ l, ActsV w w.heap.size v l := by
  obtain ⟨a0, len0, cap0, rfl⟩ := okWide_slice ht hv
  obtain ⟨fuel, hf⟩ := h
  rcases open_slice_ones ht Try.underlying74 (by kernel_rfl) (by kernel_rfl) (by simpa [Value.cells] using hf) with h0 | ⟨a, len, cap, hcs, hl, hm, hx⟩
  · simp at h0
    obtain ⟨rfl, rfl, rfl⟩ := h0
    exact ⟨[], .inl ⟨_, _, rfl, rfl⟩⟩
  · simp at hcs
    obtain ⟨rfl, rfl, rfl⟩ := hcs
    rcases Nat.eq_zero_or_pos len0 with hz | hpos
    · subst hz
      exact ⟨[], .inl ⟨_, _, rfl, rfl⟩⟩
    obtain ⟨l, hlen, hq⟩ := list_of (Q := fun i (x : ActM) => ActOk w w.heap.size x ∧ ∀ (j : Nat) (u : Value), x.cells[j]? = some u → w.cell? (a.add (i * 5 + j)) = some u) len0 (fun i hi => by
      obtain ⟨u0, n0, y0, g0, e0⟩ := hx i hi 0 _ rfl
      obtain ⟨x0, rfl, w0⟩ := int_cell Try.underlying3 e0
      obtain ⟨u1, n1, y1, g1, e1⟩ := hx i hi 1 _ rfl
      obtain ⟨x1, rfl, w1⟩ := int_cell Try.underlying3 e1
      obtain ⟨u2, n2, y2, g2, e2⟩ := hx i hi 2 _ rfl
      obtain ⟨x2, rfl, w2⟩ := int_cell Try.underlying3 e2
      obtain ⟨u3, n3, y3, g3, e3⟩ := hx i hi 3 _ rfl
      obtain ⟨x3, rfl, w3⟩ := int_cell Try.underlying39 e3
      obtain ⟨u4, n4, y4, g4, e4⟩ := hx i hi 4 _ rfl
      obtain ⟨A, b, c, rfl, hbl, hba⟩ := open_bytes Try.underlying46 e4
      refine ⟨⟨⟨x0, x1, x2, x3, b⟩, A, c⟩, ⟨⟨i64_of w1, i64_of w2, i64_of w3, hbl⟩, hba⟩, fun j u hu => ?_⟩
      match j, hu with
      | 0, hu => simp [ActM.cells] at hu; subst hu; exact g0
      | 1, hu => simp [ActM.cells] at hu; subst hu; exact g1
      | 2, hu => simp [ActM.cells] at hu; subst hu; exact g2
      | 3, hu => simp [ActM.cells] at hu; subst hu; exact g3
      | 4, hu => simp [ActM.cells] at hu; subst hu; exact g4
      | j + 5, hu => simp [ActM.cells] at hu)
    have hspot : a.spot = none := by
      obtain ⟨x, hx0⟩ : ∃ x, l[0]? = some x := ⟨l[0]'(by omega), List.getElem?_eq_getElem (by omega)⟩
      have := (hq 0 x hx0).2 0 _ rfl
      exact World.cell?_spot (by simpa [Addr.add] using this)
    obtain ⟨b, off, spot⟩ := a
    simp only at hspot
    subst hspot
    have hat : ∀ i m, l[i]? = some m → ∀ j u, m.cells[j]? = some u → w.cell? ⟨b, off + i * 5 + j, none⟩ = some u := fun i x hx j u hu => by
      have := (hq i x hx).2 j u hu
      rwa [Go.Addr.add_lit, ← Nat.add_assoc] at this
    refine ⟨l, .inr ⟨b, off, cap0, by rw [hlen], ?_, by omega, fun i m hi => ⟨(hq i m hi).1, hat i m hi⟩⟩⟩
    obtain ⟨x, hx0⟩ : ∃ x, l[0]? = some x := ⟨l[0]'(by omega), List.getElem?_eq_getElem (by omega)⟩
    exact World.block_lt_of_cell? _ _ (hat 0 x hx0 0 _ rfl)
end
end Go.Proofs.Ytpononkgeeahdaa
