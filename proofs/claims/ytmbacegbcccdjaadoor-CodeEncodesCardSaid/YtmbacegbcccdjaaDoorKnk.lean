/-
  Layer 4: a strings.Builder that a function writes: all other blocks stay, but for rows of bytes that nothing froze.
  Conditions: none. (My own text.)
-/
import Derived.Test.YtmbacegbcccdjaaDoorKng
import Derived.Lib.AppendStr
namespace Go.Proofs.YtmbacegbcccdjaaDoor
open Go.RowKit Spm
set_option linter.unusedVariables false
set_option linter.unusedSimpArgs false

open Go.Lib hiding intOf
attribute [local irreducible] wpList
/-- All blocks but the builder's stand, but for rows of bytes of which nothing is frozen. -/
def Oth (b : Nat) (w w' : World) : Prop := ∀ k o, w.heap[k]? = some o → k ≠ b → (∀ c, o ≠ .cells c 5 (0, 0)) → w'.heap[k]? = some o
theorem Oth.refl (b : Nat) (w : World) : Oth b w w := fun _ _ h _ _ => h
theorem Oth.trans {b : Nat} {u v w : World} (h : Oth b u v) (k : Oth b v w) : Oth b u w := fun i o hi hb ho => k i o (h i o hi hb ho) hb ho
theorem Oth.alloc {b : Nat} {a w : World} (h : Oth b a w) (o : Obj) : Oth b a (w.alloc o) := fun k x hk hb hx => (Lib.alloc_old w o k (Array.getElem?_eq_some_iff.1 (h k x hk hb hx)).1).trans (h k x hk hb hx)
theorem Oth.setCell {b : Nat} {a w : World} (h : Oth b a w) (p : Addr) (hp : p.block = b) (v : Value) : Oth b a (w.setCell p v) := fun k x hk hb hx => by
  rw [Below.heap_setCell _ _ _ _ (fun e => hb (by rw [← hp, e]))]
  exact h k x hk hb hx
theorem Oth.grown {b : Nat} {a w w' : World} {row : Option Nat} (h : Oth b a w) (hg : w.grownBy w' row) (hrow : ∀ g, row = some g → ∃ c, w.heap[g]? = some (.cells c 5 (0, 0))) : Oth b a w' := fun k x hk hb hx => by
  have h1 := h k x hk hb hx
  have hlt : k < w.heap.size := (Array.getElem?_eq_some_iff.1 h1).1
  rw [hg.block k hlt ?_]
  · exact h1
  · intro hk2
    obtain ⟨c, hc⟩ := hrow k hk2.symm
    rw [h1] at hc
    exact hx c (Option.some.inj hc)
theorem own_kind {w : World} {B : Nat} {v : Value} {n : Nat} {xs : List Value} (h : w.ownsRow B 5 1 v n xs) : ∀ g, v.ownBlock = some g → ∃ c, w.heap[g]? = some (.cells c 5 (0, 0)) := by
  intro g hg
  rcases h.2 with ⟨rfl, _⟩ | ⟨g', cap, cur, rfl, _, hgg, _⟩
  · simp [Value.ownBlock] at hg
  · simp [Value.ownBlock] at hg
    subst hg
    exact ⟨cur, hgg⟩
theorem Oth.blk {b : Nat} {w w' : World} (h : Oth b w w') {g : Nat} {T : TypeId} {cs : Array Value} (hg : Blk w g T cs) (hb : g ≠ b) (hT : T ≠ 5) : Blk w' g T cs :=
  h g _ hg hb (fun c e => hT (by injection e))
/-- A builder at block b that holds these letters. -/
def Bd (B b : Nat) (l : List UInt8) (w : World) : Prop := Lib.IsBuilder 64 5 B b (l.map byC) w
theorem Bd.new (w : World) : Bd w.heap.size w.heap.size [] (w.alloc (.cells #[.pointer none, .slice none 0 0] 64)) := Lib.fresh_isBuilder _ _ w
theorem bat_below {T e : TypeId} {B b : Nat} {p : Value} {bs : List Value} {W W' : World} (h : Lib.BuilderAt T e B b p bs W) (hb : Below W.heap.size W W') : Lib.BuilderAt T e B b p bs W' := by
  have hlt := h.lt
  obtain ⟨hB, v, hv, hown, hne⟩ := h
  exact ⟨hB, v, (hb.block b hlt).trans hv, hown.kept (row := none) ⟨hb.os, hb.tape, hb.output, hb.size, fun k hk _ => hb.block k hk⟩ (Classical.em _), hne⟩
theorem Bd.below {B b : Nat} {l : List UInt8} {W W' : World} (h : Bd B b l W) (hb : Below W.heap.size W W') : Bd B b l W' :=
  h.elim (fun x => .inl (bat_below x hb)) (fun x => .inr (bat_below x hb))
theorem Bd.lt {B b : Nat} {l : List UInt8} {W : World} (h : Bd B b l W) : b < W.heap.size := h.elim (fun x => x.lt) (fun x => x.lt)

theorem copyCheck_u (B b : Nat) (bs : List Value) (w : World) (h : Lib.IsBuilder 64 5 B b bs w) : Calls Tryd.prog 51 #[.pointer (some ⟨b, 0, none⟩)] w fun e w' => e = .returned (.tuple #[]) ∧ Lib.BuilderAt 64 5 B b (.pointer (some ⟨b, 0, none⟩)) bs w' ∧ Below B w w' ∧ Oth b w w' := by
  rcases h with h | h
  · refine (Any.Builder_copyCheck_fresh (ρ := Tryd.lays166_ren) { Tryd.lays166 with } Tryd.Builder_Extra_166.toX72 b w h.cell0 h.shape h.frozen0).mono ?_
    rintro e w' ⟨rfl, rfl⟩
    exact ⟨rfl, h.used _, (Below.refl B w).setCell (p := ⟨b, 0, none⟩) h.1 _, (Oth.refl _ w).setCell ⟨b, 0, none⟩ rfl _⟩
  · refine (Any.Builder_copyCheck_used (ρ := Tryd.lays166_ren) { Tryd.lays166 with } Tryd.Builder_Extra_166.toX72 b w h.cell0).mono ?_
    rintro e w' ⟨rfl, rfl⟩
    exact ⟨rfl, h, Below.refl B _, Oth.refl _ _⟩
def BdE (B b : Nat) (l : List UInt8) (w w' : World) : Prop := Bd B b l w' ∧ Below B w w' ∧ Oth b w w'
set_option maxRecDepth 100000 in
set_option maxHeartbeats 4000000 in
theorem writeByte_u (B b : Nat) (l : List UInt8) (c : UInt8) (w : World) (h : Bd B b l w) (hlen : l.length + 1 ≤ 140737488355328) (hBw : B ≤ w.heap.size) : Calls Tryd.prog 35 #[.pointer (some ⟨b, 0, none⟩), .int .u8 c.toNat] w fun e w' => e = .returned .nilIface ∧ BdE B b (l ++ [c]) w w' := by
  obtain ⟨i0, hi, hz0, hz1, hz2⟩ := info_parts u8_info
  have HI := Lib.hid (And.intro hi (And.intro hz0 (And.intro hz1 hz2)))
  clear hi hz0 hz1 hz2
  have HC := Lib.hid (copyCheck_u B b (l.map byC) w h)
  clear h
  go_enter Tryd.func35, Tryd.ntmps35
  go_wp2_with fail
  refine (HC.out).mono ?_
  rintro e w1 ⟨rfl, h1, hb1, hk1⟩
  obtain ⟨hB, v, hbk, hown, hne⟩ := h1
  have hn : (l.map byC).length = l.length := List.length_map ..
  rw [hn] at hown
  have HOW := Lib.hid hown
  have HNE := Lib.hid hne
  have HB1 := Lib.hid hb1
  have HK1 := Lib.hid hk1
  have HBK := Lib.hid hbk
  have c0 : w1.cell? ⟨b, 0, none⟩ = some (.pointer (some ⟨b, 0, none⟩)) := by rw [Lib.cell_of_heap hbk]; rfl
  have c1 : w1.cell? ⟨b, 1, none⟩ = some v := by rw [Lib.cell_of_heap hbk]; rfl
  clear hown hne hb1 hk1 hbk hn HC
  go_wp2_with (at_builtin; refine wpList_append_own _ rfl _ _ 31 rfl B 5 i0 (.int .u8 0) 1 1 Tryd.underlying31 HI.out.1 HI.out.2.1 HI.out.2.2.1 HI.out.2.2.2 rfl (by decide) _ l.length _ rfl (HOW.out.alloc _) ⟨w1.heap.size, 0, none⟩ 1 1 [.int .u8 c.toNat] rfl rfl ?c1 ?c2 ?c3 ?c4 ?c5 ?_)
  case c1 =>
    intro j u hj
    match j, hj with
    | 0, hj => simp at hj; subst hj; simp [Addr.add]
  case c2 => intro u hu; simp at hu; subst hu; rfl
  case c3 => unfold maxLen; omega
  case c4 => omega
  case c5 => have := HB1.out.size; simp; omega
  intro v' w2 hown' hgrow _
  have hlt : b < w1.heap.size := by
    rcases Nat.lt_or_ge b w1.heap.size with h' | h'
    · exact h'
    · have := HBK.out; simp [Array.getElem?_eq_none h'] at this
  have hb2 : w2.heap[b]? = some (.cells #[.pointer (some ⟨b, 0, none⟩), v] 64 (0, 0)) := by
    rw [hgrow.block b (by first | exact hlt | (simp; omega)) (fun e => HNE.out e.symm)]
    first | exact HBK.out | (rw [Lib.alloc_old w1 _ b hlt]; exact HBK.out)
  have HO2 := Lib.hid hown'
  have HG2 := Lib.hid hgrow
  have HB2 := Lib.hid hb2
  have d0 : w2.cell? ⟨b, 0, none⟩ = some (.pointer (some ⟨b, 0, none⟩)) := by rw [Lib.cell_of_heap hb2]; rfl
  have d1 : w2.cell? ⟨b, 1, none⟩ = some v := by rw [Lib.cell_of_heap hb2]; rfl
  have f1 : w2.frozen? ⟨b, 1, none⟩ = false := Lib.frozen_of_heap hb2 1
  obtain ⟨ao, n', cap, rfl⟩ : ∃ ao n' cap, v' = .slice ao n' cap := by
    rcases hown'.2 with ⟨hv, _⟩ | ⟨g, cap, cur, hv, _⟩
    · exact ⟨_, _, _, hv⟩
    · exact ⟨_, _, _, hv⟩
  clear hown' hgrow hb2
  go_wp2
  go_ret
  refine ⟨rfl, .inr ?_, ?_, ((HK1.out.alloc _).grown HG2.out (own_kind (HOW.out.alloc _))).setCell ⟨b, 1, none⟩ rfl _⟩
  · exact Lib.BuilderAt.put (T := 64) (e := 5) hB HB2.out (bs' := (l ++ [c]).map byC) (by have := HO2.out; simp only [List.map_append, List.length_append, List.length_map, List.map_cons, List.map_nil, List.length_cons, List.length_nil]; exact this) (by decide)
  · exact ((HB1.out.alloc (by have := HB1.out.size; omega) _).grown HG2.out (by have := HB1.out.size; simp; omega) (fun k hk => (HOW.out.lt k hk).1)).setCell (p := ⟨b, 1, none⟩) hB _
set_option maxRecDepth 100000 in
set_option maxHeartbeats 4000000 in
theorem writeString_u (B b : Nat) (l : List UInt8) (s : ByteArray) (w : World) (h : Bd B b l w) (hlen : l.length + s.size ≤ 140737488355328) (hBw : B ≤ w.heap.size) : Calls Tryd.prog 34 #[.pointer (some ⟨b, 0, none⟩), .string s] w fun e w' => e = .returned (.tuple #[.int .i64 s.size, .nilIface]) ∧ BdE B b (l ++ s.data.toList) w w' := by
  obtain ⟨i0, hi, hz0, hz1, hz2⟩ := info_parts u8_info
  have HI := Lib.hid (And.intro hi (And.intro hz0 (And.intro hz1 hz2)))
  clear hi hz0 hz1 hz2
  have HC := Lib.hid (copyCheck_u B b (l.map byC) w h)
  clear h
  go_enter Tryd.func34, Tryd.ntmps34
  go_wp2_with fail
  refine (HC.out).mono ?_
  rintro e w1 ⟨rfl, h1, hb1, hk1⟩
  obtain ⟨hB, v, hbk, hown, hne⟩ := h1
  have hn : (l.map byC).length = l.length := List.length_map ..
  rw [hn] at hown
  have HOW := Lib.hid hown
  have HNE := Lib.hid hne
  have HB1 := Lib.hid hb1
  have HK1 := Lib.hid hk1
  have HBK := Lib.hid hbk
  have c0 : w1.cell? ⟨b, 0, none⟩ = some (.pointer (some ⟨b, 0, none⟩)) := by rw [Lib.cell_of_heap hbk]; rfl
  have c1 : w1.cell? ⟨b, 1, none⟩ = some v := by rw [Lib.cell_of_heap hbk]; rfl
  clear hown hne hb1 hk1 hbk hn HC
  go_wp2_with (at_builtin; refine Lib.wpList_append_own_string _ rfl _ _ 31 9 rfl B 5 i0 Tryd.underlying31 Tryd.underlying9 HI.out.1 HI.out.2.1 HI.out.2.2.1 HI.out.2.2.2 _ l.length _ rfl HOW.out s rfl ?c3 ?c4 ?c5 ?_)
  case c3 => unfold maxLen; omega
  case c4 => omega
  case c5 => have := HB1.out.size; omega
  intro v' w2 hown' hgrow _
  have hlt : b < w1.heap.size := by
    rcases Nat.lt_or_ge b w1.heap.size with h' | h'
    · exact h'
    · have := HBK.out; simp [Array.getElem?_eq_none h'] at this
  have hb2 : w2.heap[b]? = some (.cells #[.pointer (some ⟨b, 0, none⟩), v] 64 (0, 0)) := by
    rw [hgrow.block b (by first | exact hlt | (simp; omega)) (fun e => HNE.out e.symm)]
    first | exact HBK.out | (rw [Lib.alloc_old w1 _ b hlt]; exact HBK.out)
  have HO2 := Lib.hid hown'
  have HG2 := Lib.hid hgrow
  have HB2 := Lib.hid hb2
  have d0 : w2.cell? ⟨b, 0, none⟩ = some (.pointer (some ⟨b, 0, none⟩)) := by rw [Lib.cell_of_heap hb2]; rfl
  have d1 : w2.cell? ⟨b, 1, none⟩ = some v := by rw [Lib.cell_of_heap hb2]; rfl
  have f1 : w2.frozen? ⟨b, 1, none⟩ = false := Lib.frozen_of_heap hb2 1
  obtain ⟨ao, n', cap, rfl⟩ : ∃ ao n' cap, v' = .slice ao n' cap := by
    rcases hown'.2 with ⟨hv, _⟩ | ⟨g, cap, cur, hv, _⟩
    · exact ⟨_, _, _, hv⟩
    · exact ⟨_, _, _, hv⟩
  clear hown' hgrow hb2
  go_wp2
  go_ret2
  refine ⟨rfl, .inr ?_, ?_, (HK1.out.grown HG2.out (own_kind HOW.out)).setCell ⟨b, 1, none⟩ rfl _⟩
  · exact Lib.BuilderAt.put (T := 64) (e := 5) hB HB2.out (bs' := (l ++ s.data.toList).map byC) (by have := HO2.out; rw [List.map_append, List.length_append, List.length_map, List.length_map, show s.data.toList.length = s.size from rfl]; exact this) (by decide)
  · exact (HB1.out.grown HG2.out (by have := HB1.out.size; omega) (fun k hk => (HOW.out.lt k hk).1)).setCell (p := ⟨b, 1, none⟩) hB _
theorem string_u (B b : Nat) (l : List UInt8) (w : World) (h : Bd B b l w) (hBw : B ≤ w.heap.size) : Calls Tryd.prog 38 #[.pointer (some ⟨b, 0, none⟩)] w fun e w' => e = .returned (.string ⟨l.toArray⟩) ∧ Below B w w' :=
  (Tryd.Builder_String_any_k B b l w (Lib.IsBuilderF.of h) hBw).mono fun e w' ⟨h1, _, h2, _⟩ => ⟨h1, h2⟩
end Go.Proofs.YtmbacegbcccdjaaDoor
