/-
  Layer 5: the program's functions, at things that the law owns.
  Conditions: none. (My own text.)
-/
import Derived.Test.YtpononkgeeahdaaSqb
import Derived.Test.YtpononkgeeahdaaSqc
import Derived.Test.YtpononkgeeahdaaSpz
import Derived.Test.YtpononkgeeahdaaSpy
namespace Go.Proofs.Ytpononkgeeahdaa
open Go.RowKit Spm
set_option linter.unusedVariables false
set_option linter.unusedSimpArgs false

/-- A space. -/
def Sp (a : Nat) (L : List Rg) : Res := fun w F => PSp w a F L ∧ Ok L
instance fr_sp (a : Nat) (L : List Rg) : Fr (Sp a L) := ⟨fun ⟨h, ok⟩ hk => ⟨h.keep hk, ok⟩, fun ⟨h, ok⟩ hm => ⟨h.mono hm, ok⟩⟩
theorem fr_row {base : Nat} {T : TypeId} {size n : Nat} {v : Value} {xs : List Value} : Fr (fun w F => w.ownsRow base T size v n xs ∧ ∀ g, v.ownBlock = some g → F g) :=
  ⟨fun ⟨h, hf⟩ hk => ⟨owns_block h (fun g hg => hk g (hf g hg) (h.lt g hg).2), hf⟩, fun ⟨h, hf⟩ hm => ⟨h, fun g hg => hm g (hf g hg) (h.lt g hg).2⟩⟩
/-- Bytes. -/
def Bt (v : Value) (l : List UInt8) : Res := fun w F => Bys w 0 v l ∧ ∀ g, v.ownBlock = some g → F g
instance fr_bt (v : Value) (l : List UInt8) : Fr (Bt v l) := fr_row
/-- Regions that were told. -/
def Rs (v : Value) (L : List Rg) : Res := fun w F => Regs w 0 v L ∧ ∀ g, v.ownBlock = some g → F g
instance fr_rs (v : Value) (L : List Rg) : Fr (Rs v L) := fr_row

section
variable {B : Nat} {w wr w' : World} {a : Nat} {L : List Rg} {Y : Res}
theorem Has.bytes [hY : Fr Y] (h : Has B w wr Y) {v : Value} {l : List UInt8} (hb : Bys w' wr.heap.size v l) (hbel : Below wr.heap.size wr w') : Has B w w' (Star (Bt v l) Y) :=
  h.add hbel ⟨owns_mono hb (Nat.zero_le _), fun g hg => (hb.lt g hg).1⟩
theorem Has.regs [hY : Fr Y] (h : Has B w wr Y) {v : Value} {l : List Rg} (hb : Regs w' wr.heap.size v l) (hbel : Below wr.heap.size wr w') : Has B w w' (Star (Rs v l) Y) :=
  h.add hbel ⟨owns_mono hb (Nat.zero_le _), fun g hg => (hb.lt g hg).1⟩
theorem Has.space [hY : Fr Y] (h : Has B w wr Y) {L : List Rg} (hb : PSp w' wr.heap.size (fun k => wr.heap.size ≤ k) L) (hok : Ok L) (hbel : Below wr.heap.size wr w') : Has B w w' (Star (Sp wr.heap.size L) Y) :=
  h.add hbel ⟨hb, hok⟩
theorem Has.sp (h : Has B w wr (Star (Sp a L) Y)) : ∃ F, PSp wr a F L ∧ Ok L := by
  obtain ⟨F, ⟨F1, F2, h1, _⟩, _⟩ := h.own
  exact ⟨F1, h1⟩
theorem Has.ok (h : Has B w wr (Star (Sp a L) Y)) : Ok L := by
  obtain ⟨F, h1, h2⟩ := h.sp
  exact h2
theorem Has.of_mine (h : Mine B w wr a L) : Has B w wr (Star (Sp a L) Emp) :=
  ⟨⟨fun k => B ≤ k, ⟨fun k => B ≤ k, fun _ => False, ⟨h.sp, h.ok⟩, trivial, fun _ _ h => h, fun _ h => h, fun _ h => h.elim⟩, fun _ h => h⟩, h.bel, h.le⟩
theorem Has.bt {v : Value} {l : List UInt8} (h : Has B w wr (Star (Bt v l) Y)) : Bys wr 0 v l := by
  obtain ⟨F, ⟨F1, F2, h1, _⟩, _⟩ := h.own
  exact h1.1
theorem Has.rs {v : Value} {l : List Rg} (h : Has B w wr (Star (Rs v l) Y)) : Regs wr 0 v l := by
  obtain ⟨F, ⟨F1, F2, h1, _⟩, _⟩ := h.own
  exact h1.1
theorem Goes.sets {F : Nat → Prop} {r : List Rg × Int} {e : Ending} (h : SetsE a F r wr e w') (hok : Ok r.1) : Goes (Sp a r.1) F wr w' := ⟨⟨h.2.1, hok⟩, h.2.2⟩
theorem Goes.sets2 {F : Nat → Prop} {r : List Rg × Int × Int} {e : Ending} (h : Sets2 a F r wr e w') (hok : Ok r.1) : Goes (Sp a r.1) F wr w' := ⟨⟨h.2.1, hok⟩, h.2.2⟩

/-! The acts. -/
theorem own_map [hY : Fr Y] (h : Has B w wr (Star (Sp a L) Y)) (size p : Int) : Calls Try.prog 41 #[.pointer (some ⟨a, 0, none⟩), .int .i64 size, .int .i64 p] wr fun e w' => e = .returned (.tuple #[.int .i64 (mapS L size p).2.1, .int .i64 (mapS L size p).2.2]) ∧ Has B w w' (Star (Sp a (mapS L size p).1) Y) :=
  h.call fun F ⟨h1, ok⟩ => (map_any a F L ok size p wr h1).mono fun _ _ hs => ⟨hs.1, Goes.sets2 hs (ok.map _ _)⟩
theorem own_mapAt [hY : Fr Y] (h : Has B w wr (Star (Sp a L) Y)) (at_ size p : Int) : Calls Try.prog 15 #[.pointer (some ⟨a, 0, none⟩), .int .i64 at_, .int .i64 size, .int .i64 p] wr fun e w' => e = .returned (.int .i64 (mapAtS L at_ size p).2) ∧ Has B w w' (Star (Sp a (mapAtS L at_ size p).1) Y) :=
  h.call fun F ⟨h1, ok⟩ => (mapAt_any a F L ok at_ size p wr h1).mono fun _ _ hs => ⟨hs.1, Goes.sets hs (ok.mapAt _ _ _)⟩
theorem own_unmap [hY : Fr Y] (h : Has B w wr (Star (Sp a L) Y)) (at_ : Int) : Calls Try.prog 42 #[.pointer (some ⟨a, 0, none⟩), .int .i64 at_] wr fun e w' => e = .returned (.int .i64 (unmapS L at_).2) ∧ Has B w w' (Star (Sp a (unmapS L at_).1) Y) :=
  h.call fun F ⟨h1, ok⟩ => (unmap_any a F L ok at_ wr h1).mono fun _ _ hs => ⟨hs.1, Goes.sets hs (ok.unmap _)⟩
theorem own_protect [hY : Fr Y] (h : Has B w wr (Star (Sp a L) Y)) (at_ p : Int) : Calls Try.prog 43 #[.pointer (some ⟨a, 0, none⟩), .int .i64 at_, .int .i64 p] wr fun e w' => e = .returned (.int .i64 (protectS L at_ p).2) ∧ Has B w w' (Star (Sp a (protectS L at_ p).1) Y) :=
  h.call fun F ⟨h1, ok⟩ => (protect_any a F L at_ p wr h1).mono fun _ _ hs => ⟨hs.1, Goes.sets hs (ok.protect _ _)⟩
theorem own_write [hY : Fr Y] (h : Has B w wr (Star (Sp a L) Y)) (at_ : Int) (hat : at_ ≤ 9223372036854775807) (A : Option Addr) (c : Nat) (b : List UInt8) (hb : b.length ≤ 9223372036854775807) (hs : SrcB wr A b) : Calls Try.prog 44 #[.pointer (some ⟨a, 0, none⟩), .int .i64 at_, .slice A b.length c] wr fun e w' => e = .returned (.int .i64 (setS L at_ b 2).2) ∧ Has B w w' (Star (Sp a (setS L at_ b 2).1) Y) :=
  h.call fun F ⟨h1, ok⟩ => (write_any a F L ok at_ hat A c b hb wr h1 hs).mono fun _ _ hs => ⟨hs.1, Goes.sets hs (ok.set _ _ _)⟩
theorem own_poke [hY : Fr Y] (h : Has B w wr (Star (Sp a L) Y)) (at_ : Int) (hat : at_ ≤ 9223372036854775807) (A : Option Addr) (c : Nat) (b : List UInt8) (hb : b.length ≤ 9223372036854775807) (hs : SrcB wr A b) : Calls Try.prog 39 #[.pointer (some ⟨a, 0, none⟩), .int .i64 at_, .slice A b.length c] wr fun e w' => e = .returned (.int .i64 (setS L at_ b 0).2) ∧ Has B w w' (Star (Sp a (setS L at_ b 0).1) Y) :=
  h.call fun F ⟨h1, ok⟩ => (poke_any a F L ok at_ hat A c b hb wr h1 hs).mono fun _ _ hs => ⟨hs.1, Goes.sets hs (ok.set _ _ _)⟩
theorem own_setWord [hY : Fr Y] (h : Has B w wr (Star (Sp a L) Y)) (at_ : Int) (hat : at_ ≤ 9223372036854775807) (n : Int) : Calls Try.prog 45 #[.pointer (some ⟨a, 0, none⟩), .int .i64 at_, .int .i64 n] wr fun e w' => e = .returned (.int .i64 (setS L at_ (bytesS n) 2).2) ∧ Has B w w' (Star (Sp a (setS L at_ (bytesS n) 2).1) Y) :=
  h.call fun F ⟨h1, ok⟩ => (setWord_any a F L ok at_ hat n wr h1).mono fun _ _ hs => ⟨hs.1, Goes.sets hs (ok.set _ _ _)⟩
theorem own_pokeWord [hY : Fr Y] (h : Has B w wr (Star (Sp a L) Y)) (at_ : Int) (hat : at_ ≤ 9223372036854775807) (n : Int) : Calls Try.prog 27 #[.pointer (some ⟨a, 0, none⟩), .int .i64 at_, .int .i64 n] wr fun e w' => e = .returned (.int .i64 (setS L at_ (bytesS n) 0).2) ∧ Has B w w' (Star (Sp a (setS L at_ (bytesS n) 0).1) Y) :=
  h.call fun F ⟨h1, ok⟩ => (pokeWord_any a F L ok at_ hat n wr h1).mono fun _ _ hs => ⟨hs.1, Goes.sets hs (ok.set _ _ _)⟩
theorem own_does [hY : Fr Y] (h : Has B w wr (Star (Sp a L) Y)) (m : ActM) (hr : ActRng m.x) (hs : SrcB wr m.A m.x.b) : Calls Try.prog 29 #[.pointer (some ⟨a, 0, none⟩), .agg #[.int .i64 m.x.d, .int .i64 m.x.at_, .int .i64 m.x.n, .int .i64 m.x.p, .slice m.A m.x.b.length m.c]] wr fun e w' => e = .returned (.tuple #[.int .i64 (doesS L m.x).2.1, .int .i64 (doesS L m.x).2.2]) ∧ Has B w w' (Star (Sp a (doesS L m.x).1) Y) :=
  h.call fun F ⟨h1, ok⟩ => (does_sets h1 ok m hr hs).mono fun _ _ hs => ⟨hs.1, Goes.sets2 hs (doesS_ok ok _)⟩

/-! What is asked. -/
theorem own_peek [hY : Fr Y] (h : Has B w wr (Star (Sp a L) Y)) (at_ : Int) (hat : at_ ≤ 9223372036854775807) (n : Int) : Calls Try.prog 19 #[.pointer (some ⟨a, 0, none⟩), .int .i64 at_, .int .i64 n] wr fun e w' => ∃ v', e = .returned (.tuple #[v', .int .i64 (getS L at_ n 0).2]) ∧ Has B w w' (Star (Bt v' (getS L at_ n 0).1) (Star (Sp a L) Y)) := by
  obtain ⟨F, h1, ok⟩ := h.sp
  exact (peek_any a F L ok at_ hat n wr h1).mono fun e w' ⟨v', e1, e2, e3⟩ => ⟨v', e1, h.bytes e2 e3⟩
theorem own_gap [hY : Fr Y] (h : Has B w wr (Star (Sp a L) Y)) (size : Int) : Calls Try.prog 57 #[.pointer (some ⟨a, 0, none⟩), .int .i64 size] wr fun e w' => e = .returned (.tuple #[.int .i64 (gapS L size).1, .int .i64 (gapS L size).2]) ∧ Has B w w' (Star (Sp a L) Y) := by
  obtain ⟨F, h1, ok⟩ := h.sp
  exact (gap_any a F L ok size wr h1).mono fun e w' ⟨e1, e2⟩ => ⟨e1, h.stay e2⟩
theorem own_peekWord [hY : Fr Y] (h : Has B w wr (Star (Sp a L) Y)) (at_ : Int) (hat : at_ ≤ 9223372036854775807) : Calls Try.prog 17 #[.pointer (some ⟨a, 0, none⟩), .int .i64 at_] wr fun e w' => e = .returned (.tuple #[.int .i64 (wordAt L at_ 0).1, .int .i64 (wordAt L at_ 0).2]) ∧ Has B w w' (Star (Sp a L) Y) := by
  obtain ⟨F, h1, ok⟩ := h.sp
  exact (sPeekWord_any a F L ok at_ hat wr h1).mono fun e w' ⟨e1, e2⟩ => ⟨e1, h.stay e2⟩
theorem own_regions [hY : Fr Y] (h : Has B w wr (Star (Sp a L) Y)) : Calls Try.prog 33 #[.pointer (some ⟨a, 0, none⟩)] wr fun e w' => ∃ v', e = .returned v' ∧ Has B w w' (Star (Rs v' L) (Star (Sp a L) Y)) := by
  obtain ⟨F, h1, ok⟩ := h.sp
  exact (regions_any a F L ok wr h1).mono fun e w' ⟨v', e1, e2, e3⟩ => ⟨v', e1, h.regs e2 e3⟩
theorem own_new [hY : Fr Y] (h : Has B w wr Y) : Calls Try.prog 14 #[] wr fun e w' => ∃ c, e = .returned (.pointer (some ⟨c, 0, none⟩)) ∧ Has B w w' (Star (Sp c []) Y) :=
  (new_any wr).mono fun e w' ⟨e1, e2, e3⟩ => ⟨_, e1, h.space e2 Ok.nil e3⟩
end

/-! Bytes as a string. -/
def strB (l : List UInt8) : ByteArray := ⟨l.toArray⟩
theorem conv_src {w : World} {A : Option Addr} {b : List UInt8} {c : Nat} (h : SrcB w A b) : (convert 46 9 (.slice A b.length c)).run Try.prog w = .ok (.string (strB b)) w := by
  cases b with
  | nil =>
    rw [run_convert_bytes_string w _ _ _ A _ c Try.underlying46 Try.underlying5 Try.underlying9]
    cases A <;> simp [Conv.bytesToString, loadCells]
    all_goals rfl
  | cons x b =>
    obtain ⟨bb, off, rfl, hc⟩ := h (by simp)
    refine run_convert_bytes_back w _ _ _ ⟨bb, off, none⟩ c (x :: b) Try.underlying46 Try.underlying5 Try.underlying9 (fun j hj => ?_)
    rw [Addr.add_lit]
    exact hc j _ (List.getElem?_eq_getElem hj)
theorem Bys.src {w : World} {base : Nat} {v : Value} {l : List UInt8} (h : Bys w base v l) : ∃ A c, v = .slice A l.length c ∧ c ≤ maxLen ∧ SrcB w A l := by
  rcases h.2 with ⟨hv, hn⟩ | ⟨g, cap, cur, hv, hb, hg, hl, hm, hs, ht⟩
  · exact ⟨none, 0, by rw [hv, hn], Nat.zero_le _, fun hne => absurd (List.eq_nil_of_length_eq_zero hn) hne⟩
  · refine ⟨some ⟨g, 0, none⟩, cap, hv, hm, fun _ => ⟨g, 0, rfl, fun j x hj => ?_⟩⟩
    have := h.cells (g := g) (by rw [hv]; rfl) j (byC x) (by rw [List.getElem?_map, hj]; rfl)
    rwa [Addr.add_lit] at this
theorem Bys.src' {w : World} {base : Nat} {v : Value} {l : List UInt8} (h : Bys w base v l) : ∃ A c, v = .slice A l.length c ∧ l.length ≤ c ∧ c ≤ maxLen ∧ SrcB w A l := by
  obtain ⟨A, c, h1, h2, h3⟩ := h.src
  refine ⟨A, c, h1, ?_, h2, h3⟩
  rcases h.2 with ⟨hv, hn⟩ | ⟨g, cap, cur, hv, hb, hg, hl, hm, hs, ht⟩
  · omega
  · rw [hv] at h1
    simp only [Value.slice.injEq] at h1
    omega
theorem Bys.conv {w : World} {base : Nat} {v : Value} {l : List UInt8} (h : Bys w base v l) : (convert 46 9 v).run Try.prog w = .ok (.string (strB l)) w := by
  obtain ⟨A, c, rfl, _, hs⟩ := h.src
  exact conv_src hs

/-! The same regions. -/
theorem Regs.at_ {w : World} {base : Nat} {v : Value} {L : List Rg} (h : Regs w base v L) : ∃ A c, v = .slice A L.length c ∧ L.length ≤ c ∧ c ≤ maxLen ∧ ∀ i r, L[i]? = some r → ∃ g, A = some ⟨g, 0, none⟩ ∧ g < w.heap.size ∧ ∀ j u, (rg3 r)[j]? = some u → w.cell? ⟨g, i * 3 + j, none⟩ = some u := by
  rcases h.2 with ⟨hv, hn⟩ | ⟨g, cap, cur, hv, hb, hg, hl, hm, hs, ht⟩
  · exact ⟨none, 0, by rw [hv, hn], by omega, Nat.zero_le _, fun i r hi => by rw [List.eq_nil_of_length_eq_zero hn] at hi; simp at hi⟩
  · refine ⟨some ⟨g, 0, none⟩, cap, hv, hl, hm, fun i r hi => ⟨g, rfl, (Array.getElem?_eq_some_iff.1 hg).1, fun j u hj => ?_⟩⟩
    have hget : ∀ (L : List Rg) (i : Nat), L[i]? = some r → (L.flatMap rg3)[i * 3 + j]? = some u := by
      intro L
      induction L with
      | nil => intro i h; simp at h
      | cons x L ih =>
        intro i h
        have hl : (rg3 x).length = 3 := rfl
        rw [List.flatMap_cons]
        cases i with
        | zero =>
          simp at h; subst h
          rw [List.getElem?_append_left (by have := (List.getElem?_eq_some_iff.1 hj).1; omega)]
          simpa using hj
        | succ i =>
          rw [List.getElem?_append_right (by omega), hl, show (i + 1) * 3 + j - 3 = i * 3 + j by omega]
          exact ih i (by simpa using h)
    have := h.cells (g := g) (by rw [hv]; rfl) _ _ (hget L i hi)
    rwa [Addr.add_lit, Nat.zero_add] at this

set_option maxRecDepth 100000 in
set_option maxHeartbeats 1000000 in
theorem same_any {w : World} {b1 b2 : Nat} {v1 v2 : Value} {L1 L2 : List Rg} (h1 : Regs w b1 v1 L1) (h2 : Regs w b2 v2 L2) (he : L1.map rg3 = L2.map rg3) : Calls Try.prog 34 #[v1, v2] w fun e w' => e = .returned (.bool true) ∧ Below w.heap.size w w' := by
  obtain ⟨A1, k1, rfl, hc1, hm1, r1⟩ := h1.at_
  obtain ⟨A2, k2, rfl, hc2, hm2, r2⟩ := h2.at_
  have hlen : L1.length = L2.length := by have := congrArg List.length he; simpa using this
  have R1 := Lib.hid r1
  have R2 := Lib.hid r2
  have HE := Lib.hid he
  rw [hlen]
  clear r1 r2 h1 h2 he
  have HL := Lib.hid hlen; clear hlen
  unfold maxLen at hm1 hm2
  go_enter Try.func34, Try.ntmps34
  go_wp2
  go_loopw [5] (fun i wr => ∃ k : Nat, k ≤ L2.length ∧ i = .int .i64 k ∧ Below w.heap.size w wr) (fun i _ => L2.length - (intOf i).toNat)
  case atStart => exact ⟨0, Nat.zero_le _, rfl, Below.refl _ _⟩
  case round =>
    obtain ⟨k, hk, rfl, hbel⟩ := hrel
    by_cases hlt : k < L2.length
    · obtain ⟨y, hy⟩ : ∃ y, L2[k]? = some y := ⟨L2[k], List.getElem?_eq_getElem hlt⟩
      obtain ⟨x, hx⟩ : ∃ x, L1[k]? = some x := ⟨L1[k]'(by have := HL.out; omega), List.getElem?_eq_getElem (by have := HL.out; omega)⟩
      obtain ⟨g1, rfl, hg1, q1⟩ := R1.out k x hx
      obtain ⟨g2, rfl, hg2, q2⟩ := R2.out k y hy
      have hxy : rg3 x = rg3 y := by
        have := congrArg (fun l => l[k]?) HE.out
        simp only [List.getElem?_map, hx, hy, Option.map_some] at this
        exact Option.some.inj this
      simp only [rg3, List.cons.injEq, Value.int.injEq, and_true, true_and] at hxy
      obtain ⟨xa, xs, xp, xb⟩ := x
      obtain ⟨ya, ys, yp, yb⟩ := y
      simp only at hxy
      obtain ⟨rfl, rfl, rfl⟩ := hxy
      have c0 : wr.cell? ⟨g1, k * 3, none⟩ = some (.int .i64 xa) := (hbel.cell (p := ⟨g1, k * 3, none⟩) hg1).trans (q1 0 _ rfl)
      have c1 : wr.cell? ⟨g1, k * 3 + 1, none⟩ = some (.int .i64 xs) := (hbel.cell (p := ⟨g1, k * 3 + 1, none⟩) hg1).trans (q1 1 _ rfl)
      have c2 : wr.cell? ⟨g1, k * 3 + 2, none⟩ = some (.int .i64 xp) := (hbel.cell (p := ⟨g1, k * 3 + 2, none⟩) hg1).trans (q1 2 _ rfl)
      have d0 : wr.cell? ⟨g2, k * 3, none⟩ = some (.int .i64 xa) := (hbel.cell (p := ⟨g2, k * 3, none⟩) hg2).trans (q2 0 _ rfl)
      have d1 : wr.cell? ⟨g2, k * 3 + 1, none⟩ = some (.int .i64 xs) := (hbel.cell (p := ⟨g2, k * 3 + 1, none⟩) hg2).trans (q2 1 _ rfl)
      have d2 : wr.cell? ⟨g2, k * 3 + 2, none⟩ = some (.int .i64 xp) := (hbel.cell (p := ⟨g2, k * 3 + 2, none⟩) hg2).trans (q2 2 _ rfl)
      clear q1 q2 hx hy
      have i0 : (0 : Int) ≤ (k : Int) := by omega
      have i1 : (k : Int) < (L2.length : Int) := by omega
      have HB := Lib.hid hbel; clear hbel
      go_wp2_with fail
      go_quiet (fail)
      go_wp2
      go_roundw
      case rel => exact ⟨k + 1, by omega, by go_num, below_drewN HB.out _⟩
      case measure => simp [intOf]; omega
    · go_wp2
      go_ret
      exact ⟨rfl, hbel⟩
end Go.Proofs.Ytpononkgeeahdaa
