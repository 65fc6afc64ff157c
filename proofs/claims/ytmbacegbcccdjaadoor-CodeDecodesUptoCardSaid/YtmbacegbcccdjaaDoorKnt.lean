/-
  Layer 4: the law CodeDecodes: its walk.
  Conditions: none. (My own text.)
-/
import Derived.Test.YtmbacegbcccdjaaDoorKns
import Derived.Test.YtmbacegbcccdjaaDoorKnq
import Derived.Test.YtmbacegbcccdjaaDoorSdm
namespace Go.Proofs.YtmbacegbcccdjaaDoor
open Go.RowKit Spm
set_option linter.unusedVariables false
set_option linter.unusedSimpArgs false

open Go.Lib hiding intOf
attribute [local irreducible] wpList
set_option maxRecDepth 100000 in
set_option maxHeartbeats 4000000 in
theorem decodes_walk (A : Option Addr) (c : Nat) (b : List UInt8) (hbl : b.length ≤ 1048576) (hbc : b.length ≤ c) (hcm : c ≤ maxLen) (w : World) (hba : BytesAt w w.heap.size A b) (hL : LaidW w) :
    Calls Tryd.prog 5 #[.slice A b.length c] w fun e w' => e = .returned (.bool true) ∧ Below w.heap.size w w' := by
  have HL := Lib.hid (fun (X : World) (hb : Below w.heap.size w X) => hL.below hb)
  clear hL
  have C1 := Lib.hid (awake04 w (HL.out w (Below.refl _ _)))
  have HBA := Lib.hid hba
  clear hba
  go_enter Tryd.func5, Tryd.ntmps5
  go_wp2_with fail
  refine (C1.out).mono ?_
  rintro e w1 ⟨rfl, hb1⟩
  have B1 := Lib.hid hb1
  clear hb1 C1
  have C2 := Lib.hid (lent_any A c b (by omega) w1 (HBA.out.src B1.out))
  go_wp2_with fail
  refine (C2.out).mono ?_
  rintro e w2 ⟨rfl, hbk, hb2⟩
  have B2 : Hid (Below w.heap.size w w2) := Lib.hid (B1.out.trans (hb2.mono B1.out.size))
  have K2 := Lib.hid hbk
  have HGW : Hid (w.heap.size ≤ w1.heap.size) := Lib.hid B1.out.size
  clear hbk hb2 C2
  generalize w1.heap.size = g at K2 HGW ⊢
  have hsrc : SrcB w2 (some ⟨g, 0, none⟩) b := fun _ => ⟨g, 0, rfl, fun j x hj => by
    rw [Nat.zero_add, K2.out.cell]
    unfold lentC
    rw [List.getElem?_toArray, List.getElem?_append_left (by have := (List.getElem?_eq_some_iff.1 hj).1; simpa using this), List.getElem?_map, hj]
    rfl⟩
  have C3 := Lib.hid (decode_any (some ⟨g, 0, none⟩) (b.length + 3) b (by omega) (by omega) (by unfold maxLen; omega) w2 hsrc)
  clear hsrc
  go_wp2_with fail
  refine (C3.out).mono ?_
  rintro e w3 ⟨h3, hb3⟩
  have B3 : Hid (Below w.heap.size w w3) := Lib.hid (B2.out.trans (hb3.mono B2.out.size))
  have K3 := Lib.hid (K2.out.keep hb3)
  have C4 := Lib.hid (back_any g A c b (by omega) w3 K3.out (fun hn => by
    obtain ⟨bb, off, h1, h2, h3⟩ := HBA.out hn
    exact ⟨bb, off, h1, by have := HGW.out; omega, fun j x hj => (B3.out.cell (p := ⟨bb, off + j, none⟩) h2).trans (h3 j x hj)⟩))
  have HG2 : Hid (g < w2.heap.size) := Lib.hid K2.out.lt
  clear hb3 C3 K2
  rcases h3 with ⟨hd, v, rfl, ho⟩ | ⟨hd, rfl⟩
  · go_wp2_with fail
    refine (C4.out).mono ?_
    rintro e w4 ⟨rfl, hk4⟩
    have B4 : Hid (Below w.heap.size w w4) := Lib.hid (B3.out.trans (hk4.below B3.out.size (fun k hk => by have := HGW.out; omega)))
    have hl : (decL b).length = b.length / 8 := by unfold decL; simp
    rw [insRow_dec, ← hl] at ho
    have O4 := Lib.hid (owns_block ho (fun k hk => hk4.block k (ho.lt k hk).2 (fun e => by have := (ho.lt k hk).1; have := HG2.out; omega)))
    clear hk4 ho C4 hl K3 HG2
    have C5 := Lib.hid (rdecode_any A c b (by omega) hbc hcm w4 (HBA.out.src B4.out))
    go_wp2_with fail
    refine (C5.out).mono ?_
    rintro e w5 ⟨h5, hb5⟩
    have B5 : Hid (Below w.heap.size w w5) := Lib.hid (B4.out.trans (hb5.mono B4.out.size))
    have R4 := Lib.hid ((rows_own O4.out).lift hb5 hb5.size)
    clear hb5 C5 O4
    rcases h5 with ⟨-, v5, rfl, ho5⟩ | ⟨hd2, rfl⟩
    case inr => exact absurd hd hd2
    have R5 : Hid (RowsAt 5 Ins.cells w5 (fun k => k < w5.heap.size) v5 (decL b)) := Lib.hid (by
      have hl : (decL b).length = b.length / 8 := by unfold decL; simp
      rw [insRow_dec, ← hl] at ho5
      exact rows_own ho5)
    have C6 := Lib.hid (same04 v v5 (decL b) _ _ w5 R4.out R5.out)
    clear ho5 hd R4 R5
    go_wp2_with fail
    refine (C6.out).mono ?_
    rintro e w6 ⟨rfl, hb6⟩
    have B6 : Hid (Below w.heap.size w w6) := Lib.hid (B5.out.trans (hb6.mono B5.out.size))
    clear hb6 C6
    go_wp2_with fail
    go_ret
    exact ⟨by first | rfl | simp, B6.out⟩
  · go_wp2_with fail
    refine (C4.out).mono ?_
    rintro e w4 ⟨rfl, hk4⟩
    have B4 : Hid (Below w.heap.size w w4) := Lib.hid (B3.out.trans (hk4.below B3.out.size (fun k hk => by have := HGW.out; omega)))
    clear hk4 C4 K3 HG2
    have C5 := Lib.hid (rdecode_any A c b (by omega) hbc hcm w4 (HBA.out.src B4.out))
    go_wp2_with fail
    refine (C5.out).mono ?_
    rintro e w5 ⟨h5, hb5⟩
    have B5 : Hid (Below w.heap.size w w5) := Lib.hid (B4.out.trans (hb5.mono B4.out.size))
    clear hb5 C5
    rcases h5 with ⟨hd2, v5, rfl, ho5⟩ | ⟨-, rfl⟩
    case inl => exact absurd hd2 hd
    have C6 := Lib.hid (same04 (.slice none 0 0) (.slice none 0 0) [] (fun _ => True) (fun _ => True) w5 ⟨none, 0, rfl, Nat.le_refl _, Nat.zero_le _, fun i x hx => by simp at hx⟩ ⟨none, 0, rfl, Nat.le_refl _, Nat.zero_le _, fun i x hx => by simp at hx⟩)
    clear hd
    go_wp2_with fail
    refine (C6.out).mono ?_
    rintro e w6 ⟨rfl, hb6⟩
    have B6 : Hid (Below w.heap.size w w6) := Lib.hid (B5.out.trans (hb6.mono B5.out.size))
    clear hb6 C6
    go_wp2_with fail
    go_ret
    exact ⟨by first | rfl | simp, B6.out⟩
end Go.Proofs.YtmbacegbcccdjaaDoor
