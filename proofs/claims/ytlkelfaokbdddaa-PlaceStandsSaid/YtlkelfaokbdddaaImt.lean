/-
  Layer 8: those that are seen, their places.
  Conditions: none. (My own text.)
-/
import Derived.Test.YtlkelfaokbdddaaIme
import Derived.Test.YtlkelfaokbdddaaImi
import Derived.Test.YtlkelfaokbdddaaImv
namespace Go.Proofs.Ytlkelfaokbdddaa
open Go.RowKit Spm
set_option linter.unusedVariables false
set_option linter.unusedSimpArgs false

set_option maxRecDepth 100000 in
theorem info_int : (Try.prog.info? 3).map (fun i => (i.zero, i.size, i.bytes)) = some (some (.int .i64 0), 1, 8) := by kernel_rfl
theorem map_snoc1 {α β : Type} (f : α → β) (l : List α) (x : α) : (l ++ [x]).map f = l.map f ++ [f x] := by simp
def seenE (n : Nat) (w : World) (e : Ending) (w' : World) : Prop := ∃ (v : Value) (l : List Int), e = .returned v ∧ w'.ownsRow w.heap.size 3 1 v l.length (l.map (Value.int .i64)) ∧ (∀ x ∈ l, 0 ≤ x ∧ x < (n : Int)) ∧ Below w.heap.size w w'
set_option maxRecDepth 100000 in
set_option maxHeartbeats 4000000 in
theorem seen08_any (A : Option Addr) (l : List Sy) (c : Nat) (P : Nat → Prop) (w : World) (h : SysAt w P (.slice A l.length c) l) (hmax : l.length ≤ 512) : Calls Try.prog 59 #[.slice A l.length c] w (seenE l.length w) := by
  obtain ⟨i0, hi, hz0, hz1, hz2⟩ := info_parts info_int
  have HI := Lib.hid (And.intro hi (And.intro hz0 (And.intro hz1 hz2)))
  have hll := h.rows.len
  unfold maxLen at hll
  have HSY := Lib.hid (fun (wr : World) (hb : Below w.heap.size w wr) => h.keep fun k _ hk => hb.block k hk)
  clear h hi hz0 hz1 hz2
  go_enter Try.func59, Try.ntmps59
  go_wp2
  go_loopw [3, 4] (fun v i wr => ∃ (k : Nat) (o : List Int), k ≤ l.length ∧ i = .int .i64 k ∧ Hid (o.length ≤ k) ∧ Hid (∀ x ∈ o, 0 ≤ x ∧ x < (l.length : Int)) ∧ Hid (wr.ownsRow w.heap.size 3 1 v o.length (o.map (Value.int .i64))) ∧ Hid (Below w.heap.size w wr)) (fun _ i _ => l.length - (intOf i).toNat)
  case atStart => exact ⟨0, [], Nat.zero_le _, rfl, Lib.hid (Nat.le_refl _), Lib.hid (by simp), Lib.hid (World.ownsRow_nil _ _ _ _), Lib.hid (Below.refl _ _)⟩
  case round =>
    obtain ⟨k, o, hk, rfl, HLE, HIN, HOW, HB⟩ := hrel
    obtain ⟨w3, hw3⟩ : ∃ w3, w3 = wr := ⟨_, rfl⟩
    rw [← hw3] at HOW HB ⊢
    clear hw3
    by_cases hkn : k < l.length
    · obtain ⟨s, hs⟩ : ∃ s, l[k]? = some s := ⟨_, List.getElem?_eq_getElem hkn⟩
      obtain ⟨b, off, rfl, hcell⟩ := (HSY.out w3 HB.out).rows.elem k s hs
      have cel : ∀ j v, (symA s).toList[j]? = some v → w3.cell? ⟨b, off + k * 9 + j, none⟩ = some v := fun j v hv => hcell j v hv
      clear hcell hs
      go_wp2_with (first | (refine wpList_partW rfl 103 _ rfl b (off + k * 9) rfl (symA s) _ cel Try.underlying103 rfl (by kernel_rfl) ?_))
      refine (seen07_some s w3).mono ?_
      rintro e w4 ⟨⟨b1, rfl⟩, hb1⟩
      have HB4 : Hid (Below w.heap.size w w4) := Lib.hid (HB.out.trans (hb1.mono HB.out.size))
      have hlt0 := HOW.out.lt
      have HO4 : Hid (w4.ownsRow w.heap.size 3 1 u3 o.length (o.map (Value.int .i64))) := Lib.hid (owns_block HOW.out (fun g hg => hb1.block g (hlt0 g hg).2))
      clear hb1 cel hlt0 HB HOW
      cases b1
      · go_wp2_with fail
        go_roundw
        case rel => exact ⟨k + 1, o, by omega, by go_num, Lib.hid (by have := HLE.out; omega), HIN, HO4, HB4⟩
        case measure => simp [intOf]; omega
      · have hom : o.length ≤ l.length := by have := HLE.out; omega
        have HOM := Lib.hid hom
        clear hom
        go_wp2_with (at_builtin; refine wpList_append_own _ rfl _ _ 36 rfl w.heap.size 3 i0 (.int .i64 0) 1 8 Try.underlying36 HI.out.1 HI.out.2.1 HI.out.2.2.1 HI.out.2.2.2 rfl (by decide) _ o.length _ rfl (HO4.out.alloc _) ⟨w4.heap.size, 0, none⟩ 1 1 [.int .i64 (k : Int)] rfl ?c1 ?c2 ?c3 ?c4 ?c5 ?c6 ?_)
        case c1 => rfl
        case c2 => exact World.news_of_block (heap_alloc_new _ _)
        case c3 => intro u hu; simp at hu; subst hu; rfl
        case c4 => unfold maxLen; have := HOM.out; omega
        case c5 => have := HOM.out; omega
        case c6 => have := HB4.out.size; simp; omega
        intro v' w5 hown1 hgrow _
        have hlt1 := HO4.out.lt
        have H5 : Hid (w5.ownsRow w.heap.size 3 1 v' (o ++ [(k : Int)]).length ((o ++ [(k : Int)]).map (Value.int .i64))) := Lib.hid (by rw [map_snoc1]; simpa using hown1)
        have H6 : Hid (Below w.heap.size w w5) := Lib.hid ((HB4.out.alloc HB4.out.size _).grown hgrow (by have := HB4.out.size; simp; omega) (fun j hj => (hlt1 j hj).1))
        have H7 : Hid (∀ x ∈ o ++ [(k : Int)], 0 ≤ x ∧ x < (l.length : Int)) := Lib.hid (fun x hx => by
          rcases List.mem_append.1 hx with hx | hx
          · exact HIN.out x hx
          · obtain rfl : x = (k : Int) := by simpa using hx
            omega)
        have H8 : Hid ((o ++ [(k : Int)]).length ≤ k + 1) := Lib.hid (by have := HLE.out; simp; omega)
        clear hown1 hgrow hlt1 HLE HIN HO4 HB4 HOM
        generalize o ++ [(k : Int)] = o2 at H5 H7 H8
        go_wp2_with fail
        go_roundw
        case rel => exact ⟨k + 1, o2, by omega, by go_num, H8, H7, H5, H6⟩
        case measure => simp [intOf]; omega
    · go_wp2
      go_ret
      exact ⟨_, o, rfl, HOW.out, HIN.out, HB.out⟩
end Go.Proofs.Ytlkelfaokbdddaa
