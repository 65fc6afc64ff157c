/-
  Layer 4: the document's Encode: what it computes.
  Conditions: none. (My own text.)
-/
import Derived.Test.YtmbacegbcccdjaaDoorKng
import Derived.Test.YtmbacegbcccdjaaDoorCdd
namespace Go.Proofs.YtmbacegbcccdjaaDoor
open Go.RowKit Spm
set_option linter.unusedVariables false
set_option linter.unusedSimpArgs false

open Go.Lib hiding intOf
attribute [local irreducible] wpList
set_option maxRecDepth 100000 in
set_option maxHeartbeats 4000000 in
theorem rencode_any (is : List Ins) (hn : is.length ≤ 4398046511104) (v : Value) (w : World) (hR : RowsAt 5 Ins.cells w (fun k => k < w.heap.size) v is) : Calls Tryd.prog 20 #[v] w (EncE (encodeS is) w) := by
  obtain ⟨A, c, rfl, hlc, hcm, hrow⟩ := hR
  have HR := Lib.hid hrow
  clear hrow hlc hcm
  obtain ⟨i0, hi, hz0, hz1, hz2⟩ := info_parts u8_info
  have HI := Lib.hid (And.intro hi (And.intro hz0 (And.intro hz1 hz2)))
  clear hi hz0 hz1 hz2
  have HN := Lib.hid hn
  clear hn
  go_enter Tryd.func20, Tryd.ntmps20
  go_wp2_with fail
  go_loopw [4, 5] (fun v t wr => ∃ (k : Nat), k ≤ is.length ∧ t = .int .i64 k ∧ Hid ((is.take k).all mayS = true) ∧ Hid (wr.ownsRow w.heap.size 5 1 v ((is.take k).flatMap encS).length (((is.take k).flatMap encS).map byC)) ∧ Hid (Below w.heap.size w wr)) (fun _ t _ => is.length - (intOf t).toNat)
  case atStart => exact ⟨0, Nat.zero_le _, rfl, Lib.hid (by simp), Lib.hid (World.ownsRow_nil _ _ _ _), Lib.hid (Below.refl _ _)⟩
  case round =>
    obtain ⟨k, hk, rfl, HAL, HOW, HB⟩ := hrel
    obtain ⟨w3, hw3⟩ : ∃ w3, w3 = wr := ⟨_, rfl⟩
    rw [← hw3] at HOW HB ⊢
    clear hw3
    by_cases hkn : k < is.length
    · obtain ⟨i, hik⟩ : ∃ i, is[k]? = some i := ⟨_, List.getElem?_eq_getElem hkn⟩
      obtain ⟨bb, off, rfl, -, hbl, hcell⟩ := HR.out k i hik
      have cel : ∀ j v, (inA i).toList[j]? = some v → w3.cell? ⟨bb, off + k * 5 + j, none⟩ = some v := fun j v hv => (HB.out.cell (p := ⟨bb, off + k * 5 + j, none⟩) hbl).trans (hcell j v hv)
      have HIK := Lib.hid hik
      have HTK : Hid (is.take (k + 1) = is.take k ++ [i]) := Lib.hid (by rw [List.take_add_one, hik]; rfl)
      clear hik hcell hbl
      have HVI : i.val = .agg (inA i) := rfl
      have C1 := Lib.hid (rmay_any i w3)
      have C2 := Lib.hid (fun (h : mayS i = true) (W : World) => bytes_any i h W)
      rw [HVI] at C1 C2
      clear HVI
      go_wp2_with (first | (refine wpList_partW (by kernel_rfl) 39 _ rfl bb (off + k * 5) rfl (inA i) _ cel Tryd.underlying39 rfl (by kernel_rfl) ?_))
      refine (C1.out).mono ?_
      rintro e w4 ⟨rfl, hb4⟩
      have hlt3 := HOW.out.lt
      have B4 : Hid (Below w.heap.size w w4) := Lib.hid (HB.out.trans (hb4.mono HB.out.size))
      have O4 := Lib.hid (owns_block HOW.out (fun g hg => hb4.block g (hlt3 g hg).2))
      have cel4 : ∀ j v, (inA i).toList[j]? = some v → w4.cell? ⟨bb, off + k * 5 + j, none⟩ = some v := fun j v hv => (hb4.cell (p := ⟨bb, off + k * 5 + j, none⟩) (block_lt_of_cell (cel j v hv))).trans (cel j v hv)
      clear hb4 hlt3 HOW HB C1 cel
      by_cases hm : mayS i = true
      case neg =>
        have hmf : mayS i = false := by simpa using hm
        rw [hmf]
        have HE : Hid (encodeS is = none) := Lib.hid (by
          unfold encodeS
          rw [if_neg]
          intro h
          exact hm (List.all_eq_true.1 h i (List.mem_of_getElem? (by have := congrArg (·[k]?) HTK.out; simpa [List.getElem?_take, List.getElem?_append, Nat.min_eq_left (Nat.le_of_lt hkn)] using this))))
        clear hm hmf
        go_wp2_with fail
        go_ret2
        exact ⟨by rw [HE.out]; rfl, B4.out⟩
      rw [hm]
      have HAL2 : Hid ((is.take (k + 1)).all mayS = true) := Lib.hid (by rw [HTK.out, List.all_append, HAL.out]; simp [hm])
      have C3 := Lib.hid (C2.out hm w4)
      have HTF : Hid ((is.take (k + 1)).flatMap encS = (is.take k).flatMap encS ++ encS i) := Lib.hid (by rw [HTK.out, List.flatMap_append]; simp)
      have HLN : Hid (((is.take k).flatMap encS).length = 8 * k) := Lib.hid (by rw [encs_len, List.length_take]; omega)
      obtain ⟨PB, hPB⟩ : ∃ PB, (is.take k).flatMap encS = PB := ⟨_, rfl⟩
      rw [hPB] at O4 HLN HTF
      clear hm C2 hPB HAL HTK
      go_wp2_with (first | (refine wpList_partW (by kernel_rfl) 39 _ rfl bb (off + k * 5) rfl (inA i) _ cel4 Tryd.underlying39 rfl (by kernel_rfl) ?_))
      refine (C3.out).mono ?_
      rintro e w5 ⟨v5, rfl, hv5, hb5⟩
      have hlt4 := O4.out.lt
      have B5 : Hid (Below w.heap.size w w5) := Lib.hid (B4.out.trans (hb5.mono B4.out.size))
      have O5 := Lib.hid (owns_block O4.out (fun g hg => hb5.block g (hlt4 g hg).2))
      obtain ⟨g, c5, rfl, -, -⟩ := World.ownsRow.form hv5 (by rw [encS_len]; omega)
      have HNC := Lib.hid (World.ownsRow.cells hv5 (g := g) rfl)
      rw [encS_len]
      clear hv5 hb5 hlt4 B4 O4 C3 cel4
      go_wp2_with (at_builtin; refine wpList_append_own _ rfl _ _ 31 rfl w.heap.size 5 i0 (.int .u8 0) 1 1 Tryd.underlying31 HI.out.1 HI.out.2.1 HI.out.2.2.1 HI.out.2.2.2 rfl (by decide) _ PB.length _ rfl O5.out ⟨g, 0, none⟩ 8 c5 ((encS i).map byC) rfl ?c1 ?c2 ?c3 ?c4 ?c5 ?c6 ?_)
      case c1 => rfl
      case c2 => exact HNC.out
      case c3 => (intro u hu; obtain ⟨x, _, rfl⟩ := List.mem_map.1 hu; rfl)
      case c4 => unfold maxLen; have := HLN.out; have := HN.out; omega
      case c5 => have := HLN.out; have := HN.out; omega
      case c6 => exact B5.out.size
      intro v' w7 hown1 hgrow _
      have hlt1 := O5.out.lt
      have H5 : Hid (w7.ownsRow w.heap.size 5 1 v' ((is.take (k + 1)).flatMap encS).length (((is.take (k + 1)).flatMap encS).map byC)) := Lib.hid (by
        rw [HTF.out, List.map_append, List.length_append, encS_len]
        exact hown1)
      have H6 : Hid (Below w.heap.size w w7) := Lib.hid (B5.out.grown hgrow B5.out.size (fun j hj => (hlt1 j hj).1))
      clear hown1 hgrow hlt1 O5 B5 HNC
      have hkb : (k : Int) + 1 ≤ 4398046511105 := by have := HN.out; omega
      go_wp2_with fail
      first
        | (go_roundw
           case rel => exact ⟨k + 1, by omega, by go_num, HAL2, H5, H6⟩
           case measure => simp [intOf]; omega)
        | (refine ⟨?_, ?_⟩
           · (repeat apply Exists.intro)
             refine ⟨?_, rfl⟩
             exact ⟨k + 1, by omega, by go_num, HAL2, H5, H6⟩
           · simp [intOf]; omega)
    · have hke : k = is.length := by omega
      have HE : Hid (encodeS is = some (is.flatMap encS)) := Lib.hid (by
        have e1 := HAL.out
        rw [hke, List.take_length] at e1
        unfold encodeS
        rw [if_pos e1])
      have HO2 := HOW.out
      rw [hke, List.take_length] at HO2
      have HO3 := Lib.hid HO2
      clear HO2 HOW hke
      go_wp2_with fail
      go_ret2
      exact ⟨by rw [HE.out]; exact ⟨_, rfl, HO3.out⟩, HB.out⟩
end Go.Proofs.YtmbacegbcccdjaaDoor
