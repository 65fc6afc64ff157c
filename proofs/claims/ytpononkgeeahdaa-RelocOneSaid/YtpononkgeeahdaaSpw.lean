/-
  A space in memory (layer 5): a block with the slice of regions, the row of regions, each region's bytes; what keeps it.
  Conditions: none. (My own text.)
-/
import Derived.Test.YtpononkgeeahdaaSpm
import Derived.Test.YtpononkgeeahdaaBlk
import Derived.Test.YtpononkgeeahdaaCalm
import Derived.Laws.OwnMore
namespace Go.Proofs.Ytpononkgeeahdaa
open Go.RowKit
set_option linter.unusedVariables false
set_option linter.unusedSimpArgs false

theorem quiet_same {P : Program} {f : FuncId} {args : Array Value} {w : World} {n : Nat} {v : Value} (h : Calls P f args (w.drewN n) fun e w' => e = .returned v ∧ w.drewN n = w') :
    Calls P f args (w.drewN n) fun e w'' => e = .returned v ∧ ∃ m, w'' = w.drewN m := h.mono fun _ _ ⟨he, hm⟩ => ⟨he, n, hm.symm⟩

/-- But for the blocks F what was there is as it was. -/
structure Keeps (F : Nat → Prop) (w w' : World) : Prop where
  os : w'.os = w.os
  tape : w'.tape = w.tape
  output : w'.output = w.output
  size : w.heap.size ≤ w'.heap.size
  block : ∀ k, k < w.heap.size → ¬ F k → w'.heap[k]? = w.heap[k]?

theorem Keeps.refl (F : Nat → Prop) (w : World) : Keeps F w w := ⟨rfl, rfl, rfl, Nat.le_refl _, fun _ _ _ => rfl⟩
theorem Keeps.of_below {F : Nat → Prop} {w w' : World} (h : Below w.heap.size w w') : Keeps F w w' := ⟨h.os, h.tape, h.output, h.size, fun k hk _ => h.block k hk⟩
theorem Keeps.below {F : Nat → Prop} {w w' : World} {B : Nat} (h : Keeps F w w') (hB : B ≤ w.heap.size) (hF : ∀ k, F k → B ≤ k) : Below B w w' := ⟨h.os, h.tape, h.output, h.size, fun k hk => h.block k (by omega) (fun hf => by have := hF k hf; omega)⟩
theorem Keeps.mono {F G : Nat → Prop} {w w' : World} (h : Keeps F w w') (hF : ∀ k, F k → G k) : Keeps G w w' := ⟨h.os, h.tape, h.output, h.size, fun k hk hn => h.block k hk (fun hf => hn (hF k hf))⟩
/-- .. and so on; what is new in between may be written. -/
theorem Keeps.trans {F G : Nat → Prop} {w w1 w2 : World} (h : Keeps F w w1) (k : Keeps G w1 w2) (hG : ∀ i, G i → F i ∨ w.heap.size ≤ i) : Keeps F w w2 :=
  ⟨k.os.trans h.os, k.tape.trans h.tape, k.output.trans h.output, Nat.le_trans h.size k.size, fun i hi hn => (k.block i (Nat.lt_of_lt_of_le hi h.size) (fun hg => by rcases hG i hg with h1 | h1; exact hn h1; omega)).trans (h.block i hi hn)⟩
theorem Keeps.trans' {F : Nat → Prop} {w w1 w2 : World} (h : Keeps F w w1) (k : Keeps F w1 w2) : Keeps F w w2 := h.trans k fun _ h => .inl h
theorem Keeps.drew {F : Nat → Prop} {w w1 : World} (h : Keeps F w w1) : Keeps F w w1.drew := ⟨h.os, h.tape, h.output, h.size, h.block⟩
theorem Keeps.alloc {F : Nat → Prop} {w w1 : World} (h : Keeps F w w1) (o : Obj) : Keeps F w (w1.alloc o) :=
  ⟨h.os, h.tape, h.output, by have := h.size; simp; omega, fun k hk hn => (Below.heap_alloc _ _ _ (Nat.lt_of_lt_of_le hk h.size)).trans (h.block k hk hn)⟩
theorem Keeps.setCell {F : Nat → Prop} {w w1 : World} (h : Keeps F w w1) {p : Addr} (hp : F p.block ∨ w.heap.size ≤ p.block) (v : Value) : Keeps F w (w1.setCell p v) :=
  ⟨h.os, h.tape, h.output, by simpa [World.setCell] using h.size, fun k hk hn => (Below.heap_setCell _ _ _ _ (fun e => by subst e; rcases hp with hp | hp; exact hn hp; omega)).trans (h.block k hk hn)⟩
theorem Blk.keeps {F : Nat → Prop} {w w1 : World} {g : Nat} {T : TypeId} {cs : Array Value} (h : Blk w g T cs) (hk : Keeps F w w1) (hg : ¬ F g) : Blk w1 g T cs := (hk.block g h.lt hg).trans h

theorem owns_block {w w1 : World} {base : Nat} {e : TypeId} {size n : Nat} {v : Value} {xs : List Value} (h : w.ownsRow base e size v n xs) (hk : ∀ g, v.ownBlock = some g → w1.heap[g]? = w.heap[g]?) : w1.ownsRow base e size v n xs := by
  refine ⟨h.1, ?_⟩
  rcases h.2 with h1 | ⟨g, cap, cur, hv, hb, hg, r⟩
  · exact .inl h1
  · exact .inr ⟨g, cap, cur, hv, hb, by rw [hk g (by rw [hv]; rfl)]; exact hg, r⟩
theorem owns_mono {w : World} {base b' : Nat} {e : TypeId} {size n : Nat} {v : Value} {xs : List Value} (h : w.ownsRow base e size v n xs) (hb' : b' ≤ base) : w.ownsRow b' e size v n xs := by
  refine ⟨h.1, ?_⟩
  rcases h.2 with h1 | ⟨g, cap, cur, hv, hb, r⟩
  · exact .inl h1
  · exact .inr ⟨g, cap, cur, hv, Nat.le_trans hb' hb, r⟩
theorem owns_base {w : World} {base : Nat} {e : TypeId} {size n : Nat} {v : Value} {xs : List Value} (h : w.ownsRow base e size v n xs) {b' : Nat} (hb : ∀ g, v.ownBlock = some g → b' ≤ g) : w.ownsRow b' e size v n xs := by
  refine ⟨h.1, ?_⟩
  rcases h.2 with h1 | ⟨g, cap, cur, hv, hbg, r⟩
  · exact .inl h1
  · exact .inr ⟨g, cap, cur, hv, hb g (by rw [hv]; rfl), r⟩

/-- A byte as a cell. -/
def byC (b : UInt8) : Value := .int .u8 b.toNat
theorem byC_one (l : List UInt8) : ∀ u ∈ l.map byC, u.oneCell' = true := by
  intro u hu
  obtain ⟨b, _, rfl⟩ := List.mem_map.1 hu
  rfl

/-- A slice of bytes, as a row of its own. -/
def Bys (w : World) (base : Nat) (v : Value) (l : List UInt8) : Prop := w.ownsRow base 5 1 v l.length (l.map byC)

/-- A region, the block of its bytes, and how many may stand there. -/
abbrev RowP := Spm.Rg × Nat × Nat
def rgC (q : RowP) : List Value := [.int .i64 q.1.at_, .int .i64 q.1.sz, .int .i64 q.1.pm, .slice (some ⟨q.2.1, 0, none⟩) q.1.bs.length q.2.2]
def byV (q : RowP) : Value := .slice (some ⟨q.2.1, 0, none⟩) q.1.bs.length q.2.2

def foot (a : Nat) (v : Value) (Q : List RowP) : List Nat := a :: (v.ownBlock.toList ++ Q.map (·.2.1))

/-- A space (of type ts, its rows of type tr) stands at block a: v is its slice, Q its regions. -/
structure Spc (ts tr : TypeId) (w : World) (a : Nat) (v : Value) (Q : List RowP) : Prop where
  box : Blk w a ts #[v]
  row : w.ownsRow 0 tr 4 v Q.length (Q.flatMap rgC)
  each : ∀ q ∈ Q, Bys w 0 (byV q) q.1.bs
  nd : (foot a v Q).Nodup

def SpcAt (ts tr : TypeId) (w : World) (a : Nat) (F : Nat → Prop) (L : List Spm.Rg) : Prop := ∃ v Q, Spc ts tr w a v Q ∧ Q.map (·.1) = L ∧ ∀ k ∈ foot a v Q, F k

theorem rows_get (Q : List RowP) : ∀ (i j : Nat) (q : RowP) (u : Value), Q[i]? = some q → (rgC q)[j]? = some u → (Q.flatMap rgC)[i * 4 + j]? = some u := by
  induction Q with
  | nil => intro i j q u h; simp at h
  | cons x Q ih =>
    intro i j q u h hu
    have hl : (rgC x).length = 4 := rfl
    rw [List.flatMap_cons]
    cases i with
    | zero =>
      simp at h; subst h
      rw [List.getElem?_append_left (by have := (List.getElem?_eq_some_iff.1 hu).1; omega)]
      simpa using hu
    | succ i =>
      rw [List.getElem?_append_right (by omega), hl, show (i + 1) * 4 + j - 4 = i * 4 + j by omega]
      exact ih i j q u (by simpa using h) hu
theorem rows_len (Q : List RowP) : (Q.flatMap rgC).length = Q.length * 4 := by
  induction Q with
  | nil => rfl
  | cons x Q ih => rw [List.flatMap_cons, List.length_append, ih]; simp [rgC]; omega
theorem rows_take (Q : List RowP) (k : Nat) : (Q.flatMap rgC).take (k * 4) = (Q.take k).flatMap rgC := by
  induction Q generalizing k with
  | nil => simp
  | cons x Q ih =>
    cases k with
    | zero => simp
    | succ k =>
      have hl : (rgC x).length = 4 := rfl
      rw [List.flatMap_cons, List.take_succ_cons, List.flatMap_cons, show (k + 1) * 4 = (rgC x).length + k * 4 by omega, List.take_length_add_append, ih]
theorem rows_drop (Q : List RowP) (k : Nat) : (Q.flatMap rgC).drop (k * 4) = (Q.drop k).flatMap rgC := by
  induction Q generalizing k with
  | nil => simp
  | cons x Q ih =>
    cases k with
    | zero => simp
    | succ k =>
      have hl : (rgC x).length = 4 := rfl
      rw [List.flatMap_cons, List.drop_succ_cons, show (k + 1) * 4 = (rgC x).length + k * 4 by omega, List.drop_length_add_append, ih]

section
variable {ts tr : TypeId} {w w' : World} {a : Nat} {v : Value} {Q : List RowP} {F G : Nat → Prop} {L : List Spm.Rg}

theorem foot_a : a ∈ foot a v Q := List.mem_cons_self
theorem foot_v {g : Nat} (h : v.ownBlock = some g) : g ∈ foot a v Q := by unfold foot; rw [h]; simp
theorem foot_q {q : RowP} (h : q ∈ Q) : q.2.1 ∈ foot a v Q := by
  unfold foot
  refine List.mem_cons_of_mem _ (List.mem_append_right _ ?_)
  exact List.mem_map.2 ⟨q, h, rfl⟩

theorem Spc.keep (h : Spc ts tr w a v Q) (hk : ∀ k ∈ foot a v Q, w'.heap[k]? = w.heap[k]?) : Spc ts tr w' a v Q :=
  ⟨(hk a foot_a).trans h.box, owns_block h.row (fun g hg => hk g (foot_v hg)), fun q hq => owns_block (h.each q hq) (fun g hg => hk g (by simp [byV, Value.ownBlock] at hg; subst hg; exact foot_q hq)), h.nd⟩
theorem Spc.lt (h : Spc ts tr w a v Q) : ∀ k ∈ foot a v Q, k < w.heap.size := by
  intro k hk
  unfold foot at hk
  rcases List.mem_cons.1 hk with rfl | hk
  · exact h.box.lt
  · rcases List.mem_append.1 hk with hk | hk
    · cases hv : v.ownBlock with
      | none => rw [hv] at hk; simp at hk
      | some g => rw [hv] at hk; simp at hk; subst hk; exact (h.row.lt _ hv).2
    · obtain ⟨q, hq, rfl⟩ := List.mem_map.1 hk
      exact ((h.each q hq).lt _ rfl).2
theorem SpcAt.keep (h : SpcAt ts tr w a F L) (hk : ∀ k, F k → k < w.heap.size → w'.heap[k]? = w.heap[k]?) : SpcAt ts tr w' a F L := by
  obtain ⟨v, Q, hs, hL, hF⟩ := h
  exact ⟨v, Q, hs.keep (fun k hm => hk k (hF k hm) (hs.lt k hm)), hL, hF⟩
theorem SpcAt.stay (h : SpcAt ts tr w a F L) (hb : Below w.heap.size w w') : SpcAt ts tr w' a F L := h.keep fun k _ hk => hb.block k hk
theorem SpcAt.keeps (h : SpcAt ts tr w a F L) (hb : Keeps G w w') (hd : ∀ k, F k → ¬ G k) : SpcAt ts tr w' a F L := h.keep fun k hf hk => hb.block k hk (hd k hf)
theorem SpcAt.mono (h : SpcAt ts tr w a F L) (hG : ∀ k, F k → k < w.heap.size → G k) : SpcAt ts tr w a G L := by
  obtain ⟨v, Q, hs, hL, hF⟩ := h
  exact ⟨v, Q, hs, hL, fun k hk => hG k (hF k hk) (hs.lt k hk)⟩
theorem SpcAt.lt (h : SpcAt ts tr w a F L) : a < w.heap.size := by
  obtain ⟨v, Q, hs, hL, hF⟩ := h
  exact hs.box.lt
theorem SpcAt.at_ (h : SpcAt ts tr w a F L) : F a := by
  obtain ⟨v, Q, hs, hL, hF⟩ := h
  exact hF a foot_a

/-- What a walk reads: the box's one cell; the rows' cells. -/
theorem Spc.cells (h : Spc ts tr w a v Q) : ∃ A cap, v = .slice A Q.length cap ∧ w.cell? ⟨a, 0, none⟩ = some (.slice A Q.length cap) ∧ Q.length ≤ cap ∧ cap ≤ maxLen ∧
    ∀ i q, Q[i]? = some q → ∃ g, A = some ⟨g, 0, none⟩ ∧ g < w.heap.size ∧ ∀ j u, (rgC q)[j]? = some u → w.cell? ⟨g, i * 4 + j, none⟩ = some u := by
  have hc := h.box.cell 0
  rcases h.row.2 with ⟨hv, hn⟩ | ⟨g, cap, cur, hv, hb, hg, hl, hm, hs, ht⟩
  · refine ⟨none, 0, by rw [hv, hn], by rw [hc, hv, hn]; rfl, by omega, Nat.zero_le _, fun i q hq => ?_⟩
    have : Q = [] := List.eq_nil_of_length_eq_zero hn
    subst this
    simp at hq
  · refine ⟨some ⟨g, 0, none⟩, cap, hv, by rw [hc, hv]; rfl, hl, hm, fun i q hq => ⟨g, rfl, (Array.getElem?_eq_some_iff.1 hg).1, fun j u hu => ?_⟩⟩
    have h1 := h.row.cells (g := g) (by rw [hv]; rfl) _ _ (rows_get Q i j q u hq hu)
    rwa [Addr.add_lit, Nat.zero_add] at h1
theorem Spc.bys (h : Spc ts tr w a v Q) {q : RowP} (hq : q ∈ Q) : q.2.1 < w.heap.size ∧ q.1.bs.length ≤ q.2.2 ∧ q.2.2 ≤ maxLen ∧ ∀ j b, q.1.bs[j]? = some b → w.cell? ⟨q.2.1, j, none⟩ = some (byC b) := by
  have hr := h.each q hq
  rcases hr.2 with ⟨hv, hn⟩ | ⟨g, cap, cur, hv, hb, hg, hl, hm, hs, ht⟩
  · simp [byV] at hv
  · simp only [byV, Value.slice.injEq, Option.some.injEq, Addr.mk.injEq] at hv
    obtain ⟨⟨hg1, _⟩, _, hc⟩ := hv
    refine ⟨(hr.lt _ rfl).2, by omega, by omega, fun j b hj => ?_⟩
    have h1 := hr.cells (g := q.2.1) rfl j (byC b) (by rw [List.getElem?_map, hj]; rfl)
    rwa [Addr.add_lit, Nat.zero_add] at h1
end
end Go.Proofs.Ytpononkgeeahdaa
