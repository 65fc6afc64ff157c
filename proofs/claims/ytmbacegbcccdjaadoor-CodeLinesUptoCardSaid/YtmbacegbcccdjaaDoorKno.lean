/-
  Layer 4: the law CodeLines: its walk.
  Conditions: none. (My own text.)
-/
import Derived.Test.YtmbacegbcccdjaaDoorKpa
import Derived.Test.YtmbacegbcccdjaaDoorKfr
namespace Go.Proofs.YtmbacegbcccdjaaDoor
open Go.RowKit Spm
set_option linter.unusedVariables false
set_option linter.unusedSimpArgs false

open Go.Lib hiding intOf
attribute [local irreducible] wpList
def linT (ls : List ByteArray) : List (List UInt8) := ls.map fun s => s.data.toList
/-- The number of the first line that is none, or nought. -/
def firS : List (List UInt8) → Nat → Nat
  | [], _ => 0
  | p :: r, k => if (typeS p).isNone = true then k + 1 else firS r (k + 1)
theorem firS_snoc : ∀ (l : List (List UInt8)) (p : List UInt8) (k : Nat), firS (l ++ [p]) k = if firS l k = 0 then (if (typeS p).isNone = true then k + l.length + 1 else 0) else firS l k
  | [], p, k => by simp [firS]
  | q :: l, p, k => by
    have ih := firS_snoc l p (k + 1)
    rw [List.cons_append]
    conv => lhs; unfold firS
    conv => rhs; unfold firS
    by_cases h : (typeS q).isNone = true
    · rw [if_pos h, if_pos h, if_neg (by omega)]
    · rw [if_neg h, if_neg h, ih, List.length_cons, show k + 1 + l.length + 1 = k + (l.length + 1) + 1 by omega]
theorem firS_parS : ∀ (l : List (List UInt8)) (k : Nat) (acc : List Ins), (firS l k = 0 → ∃ is : List Ins, is.length = acc.length + l.length ∧ parS l k acc = (is, 0, 0)) ∧ (firS l k ≠ 0 → parS l k acc = ([], firS l k, 41))
  | [], k, acc => ⟨fun _ => ⟨acc, by simp, rfl⟩, fun h => absurd rfl h⟩
  | p :: r, k, acc => by
    cases h : typeS p with
    | none =>
      have e : firS (p :: r) k = k + 1 := by unfold firS; rw [h]; rfl
      refine ⟨fun e2 => by omega, fun _ => ?_⟩
      rw [e]
      unfold parS
      rw [h]
    | some i =>
      have e : firS (p :: r) k = firS r (k + 1) := by conv => lhs; unfold firS
                                                      rw [h]; rfl
      obtain ⟨h1, h2⟩ := firS_parS r (k + 1) (acc ++ [i])
      rw [e]
      unfold parS
      rw [h]
      refine ⟨fun e2 => ?_, fun e2 => h2 e2⟩
      obtain ⟨is, hl, hp⟩ := h1 e2
      refine ⟨is, ?_, hp⟩
      rw [hl]
      simp only [List.length_append, List.length_cons, List.length_nil]
      omega
/-- The text of lines. -/
def lnText (ls : List ByteArray) : ByteArray := ⟨(endS 10 (linT ls)).toArray⟩
theorem lnText_snoc (ls : List ByteArray) (s : ByteArray) : lnText (ls ++ [s]) = lnText ls ++ (s ++ ⟨#[10]⟩) := by
  refine (str_eq _ _).2 ?_
  unfold lnText linT endS
  rw [List.map_append, List.flatMap_append, ByteArray.data_append, ByteArray.data_append]
  simp
theorem lnText_size (ls : List ByteArray) : (lnText ls).size = (ls.map fun s => s.size + 1).sum := by
  rw [Lib.size_eq]
  unfold lnText linT endS
  simp only
  induction ls with
  | nil => rfl
  | cons s ls ih =>
    simp only [List.map_cons, List.flatMap_cons, List.sum_cons, List.length_append, List.length_cons, List.length_nil] at ih ⊢
    rw [ih]
    have := Lib.size_eq s
    omega
theorem sum_take (ls : List ByteArray) (k : Nat) : ((ls.take k).map fun s => s.size + 1).sum ≤ (ls.map fun s => s.size + 1).sum := by
  conv => rhs; rw [← List.take_append_drop k ls]
  rw [List.map_append, List.sum_append]
  omega
theorem one_line {s : ByteArray} (h : (10 : UInt8) ∉ s.data.toList) : parseS (s ++ (⟨#[10]⟩ : ByteArray)).data.toList = parS [s.data.toList] 0 [] := by
  have := parse_ends (ps := [s.data.toList]) (fun p hp => by rw [List.mem_singleton.1 hp]; exact h)
  rw [← this]
  congr 1
  rw [ByteArray.data_append]
  simp [endS]
theorem all_lines {ls : List ByteArray} (h : ∀ s ∈ ls, (10 : UInt8) ∉ s.data.toList) : parseS (lnText ls).data.toList = parS (linT ls) 0 [] := by
  have := parse_ends (ps := linT ls) (fun p hp => by
    obtain ⟨s, hs, rfl⟩ := List.mem_map.1 hp
    exact h s hs)
  rw [← this]
  rfl
theorem sum_mem {ls : List ByteArray} {s : ByteArray} (h : s ∈ ls) : s.size + 1 ≤ (ls.map fun s => s.size + 1).sum := by
  induction ls with
  | nil => simp at h
  | cons a l ih =>
    rw [List.map_cons, List.sum_cons]
    rcases List.mem_cons.1 h with rfl | h1
    · omega
    · have := ih h1; omega
theorem sum_len (ls : List ByteArray) : ls.length ≤ (ls.map fun s => s.size + 1).sum := by
  induction ls with
  | nil => simp
  | cons a l ih => rw [List.map_cons, List.sum_cons, List.length_cons]; omega
set_option maxRecDepth 100000 in
set_option maxHeartbeats 4000000 in
theorem lines_walk (v : Value) (ls : List ByteArray) (hsz : (ls.map fun s => s.size + 1).sum ≤ 1048576) (w : World) (hr : RowsAt 1 strC w (fun k => k < w.heap.size) v ls) (hL : LaidW w) :
    Calls Tryd.prog 4 #[v] w fun e w' => e = .returned (.bool true) ∧ Below w.heap.size w w' := by
  obtain ⟨A, c, rfl, hlc, hcm, hrow⟩ := hr
  have HL := Lib.hid (fun (X : World) (hb : Below w.heap.size w X) => hL.below hb)
  clear hL
  have C1 := Lib.hid (awake04 w (HL.out w (Below.refl _ _)))
  have HR := Lib.hid hrow
  have HSZ := Lib.hid hsz
  have hlen := sum_len ls
  have hlen2 : ls.length ≤ 1048576 := by omega
  clear hrow hsz hlen
  go_enter Tryd.func4, Tryd.ntmps4
  go_wp2_with fail
  refine (C1.out).mono ?_
  rintro e w1 ⟨rfl, hb1⟩
  have B1 := Lib.hid hb1
  clear hb1 C1
  go_wp2_with fail
  go_loopw [4, 5, 6] (fun t f i wr => ∃ k : Nat, k ≤ ls.length ∧ t = .string (lnText (ls.take k)) ∧ f = .int .i64 (firS (linT (ls.take k)) 0) ∧ i = .int .i64 k ∧ Hid (∀ s ∈ ls.take k, (10 : UInt8) ∉ s.data.toList) ∧ Hid (Below w.heap.size w wr)) (fun _ _ i _ => ls.length - (RowKit.intOf i).toNat)
  case atStart => exact ⟨0, Nat.zero_le _, rfl, rfl, rfl, Lib.hid (fun s hs => by simp at hs), B1⟩
  case round =>
    clear B1
    obtain ⟨k, hk, rfl, rfl, rfl, HNO, B2⟩ := hrel
    obtain ⟨w2, hw2⟩ : ∃ w2, w2 = wr := ⟨_, rfl⟩
    rw [← hw2] at B2 ⊢
    clear hw2
    by_cases hkn : k < ls.length
    · obtain ⟨s, hs⟩ : ∃ s, ls[k]? = some s := ⟨_, List.getElem?_eq_getElem hkn⟩
      obtain ⟨bb, off, rfl, -, hbl, hcell⟩ := HR.out k s hs
      have HCE : Hid (∀ X, Below w.heap.size w X → X.cell? ⟨bb, off + k, none⟩ = some (.string s)) := Lib.hid (fun X hb => (hb.cell (p := ⟨bb, off + k, none⟩) hbl).trans (by have := hcell 0 _ rfl; simpa using this))
      have hss : s.size ≤ 1048576 := by have := sum_mem (List.mem_of_getElem? hs); have := HSZ.out; omega
      have HTK : Hid (ls.take (k + 1) = ls.take k ++ [s]) := Lib.hid (by rw [List.take_add_one, hs]; rfl)
      have c0 : w2.cell? ⟨bb, off + k, none⟩ = some (.string s) := HCE.out w2 B2.out
      clear hs hcell hbl
      have HK := Lib.hid hk
      obtain ⟨TX, hTX⟩ : ∃ TX, lnText (ls.take k) = TX := ⟨_, rfl⟩
      obtain ⟨FN, hFS⟩ : ∃ FN, firS (linT (ls.take k)) 0 = FN := ⟨_, rfl⟩
      have htx : TX.size ≤ 1048576 := by rw [← hTX, lnText_size]; have := sum_take ls k; have := HSZ.out; omega
      have HTX := Lib.hid hTX
      have HFS := Lib.hid hFS
      rw [hTX, hFS]
      clear hTX hFS
      go_wp2_with fail
      go_loopw [7] (fun j wr => ∃ m : Nat, m ≤ s.size ∧ j = .int .i64 m ∧ Hid (∀ t, t < m → s.data.toList[t]? ≠ some 10) ∧ Hid (Below w.heap.size w wr)) (fun j _ => s.size - (RowKit.intOf j).toNat)
      case atStart => exact ⟨0, Nat.zero_le _, rfl, Lib.hid (fun t ht => absurd ht (Nat.not_lt_zero _)), B2⟩
      case round =>
        clear B2 c0
        obtain ⟨m, hm, rfl, HNT, B3⟩ := hrel
        obtain ⟨w3, hw3⟩ : ∃ w3, w3 = wr := ⟨_, rfl⟩
        rw [← hw3] at B3 ⊢
        clear hw3
        have c0 : w3.cell? ⟨bb, off + k, none⟩ = some (.string s) := HCE.out w3 B3.out
        by_cases hmn : m < s.size
        · have hmI : (m : Int) < (s.size : Int) := by omega
          have hsm : s.data.toList[m]? = some (s[m]'hmn) := by
            rw [Array.getElem?_toList]
            exact Array.getElem?_eq_getElem _
          by_cases hx : s[m]'hmn = 10
          · have hxb : (((s[m]'hmn).toNat : Int) == 10) = true := by rw [hx]; rfl
            clear hsm hx
            go_wp2_with fail
            go_ret
            exact ⟨rfl, B3.out⟩
          · have hxb : (((s[m]'hmn).toNat : Int) == 10) = false := beq_eq_false_iff_ne.2 (fun e => hx (UInt8.toNat_inj.1 (by rw [show (10 : UInt8).toNat = 10 from rfl]; omega)))
            have hxn : ¬ (((s[m]'hmn).toNat : Int) = 10) := fun e => hx (UInt8.toNat_inj.1 (by rw [show (10 : UInt8).toNat = 10 from rfl]; omega))
            have HNT2 : Hid (∀ t, t < m + 1 → s.data.toList[t]? ≠ some 10) := Lib.hid (fun t ht => by
              rcases Nat.lt_or_ge t m with h1 | h1
              · exact HNT.out t h1
              · obtain rfl : t = m := by omega
                rw [hsm]
                intro e
                exact hx (Option.some.inj e))
            clear hsm hx
            go_wp2_with fail
            first
              | (go_roundw
                 case rel => exact ⟨m + 1, by omega, by go_num, HNT2, B3⟩
                 case measure => simp [intOf]; omega)
              | (refine ⟨?_, ?_⟩
                 · (repeat apply Exists.intro)
                   refine ⟨?_, rfl⟩
                   exact ⟨m + 1, by omega, by go_num, HNT2, B3⟩
                 · simp [intOf]; omega)

        · have hn10 : (10 : UInt8) ∉ s.data.toList := fun e => by
            obtain ⟨t, ht⟩ := List.mem_iff_getElem?.1 e
            have := (List.getElem?_eq_some_iff.1 ht).1
            exact HNT.out t (by have e2 : s.data.toList.length = s.size := rfl; omega) ht
          have HNO2 : Hid (∀ t ∈ ls.take (k + 1), (10 : UInt8) ∉ t.data.toList) := Lib.hid (fun t ht => by
            rw [HTK.out] at ht
            rcases List.mem_append.1 ht with h1 | h1
            · exact HNO.out t h1
            · rw [List.mem_singleton.1 h1]; exact hn10)
          have hs1 : s.size + 1 ≤ 9223372036854775807 := by omega
          have hsz1 : (s ++ (⟨#[10]⟩ : ByteArray)).size = s.size + 1 := by simp [ByteArray.size_append]; rfl
          have C4 := Lib.hid (parse_any (s ++ ⟨#[10]⟩) (by omega) w3 (HL.out w3 B3.out))
          rw [one_line hn10] at C4
          have hs2 : TX.size + (s ++ (⟨#[10]⟩ : ByteArray)).size ≤ 9223372036854775807 := by omega
          have hmE : ¬ ((m : Int) < (s.size : Int)) := by omega
          have HTX2 : Hid (lnText (ls.take (k + 1)) = TX ++ (s ++ ⟨#[10]⟩)) := Lib.hid (by rw [HTK.out, lnText_snoc, HTX.out])
          have HFS2 : Hid (firS (linT (ls.take (k + 1))) 0 = if FN = 0 then (if (typeS s.data.toList).isNone = true then k + 1 else 0) else FN) := Lib.hid (by
            rw [HTK.out]
            unfold linT
            rw [List.map_append]
            have := firS_snoc (linT (ls.take k)) s.data.toList 0
            rw [HFS.out] at this
            unfold linT at this
            rw [List.map_cons, List.map_nil, this, List.length_map, List.length_take, Nat.min_eq_left HK.out, Nat.zero_add])
          clear HNO HNT hn10 hsz1
          cases hT : typeS s.data.toList with
          | none =>
            have hp : parS [s.data.toList] 0 [] = ([], 1, 41) := by unfold parS; rw [hT]
            rw [hp] at C4
            rw [hT] at HFS2
            clear hp hT
            go_wp2_with fail
            refine (C4.out).mono ?_
            rintro e w4 ⟨⟨v4, rfl, hv4⟩, hb4⟩
            have B4 : Hid (Below w.heap.size w w4) := Lib.hid (B3.out.trans (hb4.mono B3.out.size))
            clear hv4 hb4 C4 c0
            have c0 : w4.cell? ⟨bb, off + k, none⟩ = some (.string s) := HCE.out w4 B4.out
            by_cases hF : FN = 0
            · have HF2 : Hid (firS (linT (ls.take (k + 1))) 0 = k + 1) := Lib.hid (by rw [HFS2.out, if_pos hF]; rfl)
              subst hF
              go_wp2_with fail
              first
                | (go_roundw
                   case rel => exact ⟨k + 1, by omega, by rw [HTX2.out], by rw [HF2.out]; go_num, by go_num, HNO2, B4⟩
                   case measure => simp [intOf]; omega)
                | (refine ⟨?_, ?_⟩
                   · (repeat apply Exists.intro)
                     refine ⟨?_, rfl⟩
                     exact ⟨k + 1, by omega, by rw [HTX2.out], by rw [HF2.out]; go_num, by go_num, HNO2, B4⟩
                   · simp [intOf]; omega)

            · have HF2 : Hid (firS (linT (ls.take (k + 1))) 0 = FN) := Lib.hid (by rw [HFS2.out, if_neg hF])
              have hFb : ((FN : Int) == 0) = false := beq_eq_false_iff_ne.2 (by omega)
              have hFI : ¬ ((FN : Int) = 0) := by omega
              go_wp2_with fail
              first
                | (go_roundw
                   case rel => exact ⟨k + 1, by omega, by rw [HTX2.out], by rw [HF2.out], by go_num, HNO2, B4⟩
                   case measure => simp [intOf]; omega)
                | (refine ⟨?_, ?_⟩
                   · (repeat apply Exists.intro)
                     refine ⟨?_, rfl⟩
                     exact ⟨k + 1, by omega, by rw [HTX2.out], by rw [HF2.out], by go_num, HNO2, B4⟩
                   · simp [intOf]; omega)

          | some i =>
            have hp : parS [s.data.toList] 0 [] = ([i], 0, 0) := by unfold parS; rw [hT]; rfl
            rw [hp] at C4
            rw [hT] at HFS2
            clear hp hT
            go_wp2_with fail
            refine (C4.out).mono ?_
            rintro e w4 ⟨⟨v4, rfl, hv4⟩, hb4⟩
            have B4 : Hid (Below w.heap.size w w4) := Lib.hid (B3.out.trans (hb4.mono B3.out.size))
            clear hv4 hb4 C4 c0
            have c0 : w4.cell? ⟨bb, off + k, none⟩ = some (.string s) := HCE.out w4 B4.out
            have HF2 : Hid (firS (linT (ls.take (k + 1))) 0 = FN) := Lib.hid (by rw [HFS2.out]; by_cases h : FN = 0 <;> simp [h])
            go_wp2_with fail
            first
              | (go_roundw
                 case rel => exact ⟨k + 1, by omega, by rw [HTX2.out], by rw [HF2.out], by go_num, HNO2, B4⟩
                 case measure => simp [intOf]; omega)
              | (refine ⟨?_, ?_⟩
                 · (repeat apply Exists.intro)
                   refine ⟨?_, rfl⟩
                   exact ⟨k + 1, by omega, by rw [HTX2.out], by rw [HF2.out], by go_num, HNO2, B4⟩
                 · simp [intOf]; omega)

    · have hke : k = ls.length := by omega
      subst hke
      rw [List.take_length] at HNO ⊢
      have HP := Lib.hid (all_lines HNO.out)
      have HFP := Lib.hid (firS_parS (linT ls) 0 [])
      have htx : (lnText ls).size ≤ 134217728 := by rw [lnText_size]; have := HSZ.out; omega
      have C5 := Lib.hid (parse_any (lnText ls) htx w2 (HL.out w2 B2.out))
      rw [HP.out] at C5
      clear HP HNO htx
      have hll : (linT ls).length = ls.length := by unfold linT; simp
      obtain ⟨FN, hFS⟩ : ∃ FN, firS (linT ls) 0 = FN := ⟨_, rfl⟩
      rw [hFS] at HFP ⊢
      generalize lnText ls = TX at C5 ⊢
      by_cases hF : FN = 0
      · obtain ⟨is, hil, hp⟩ := HFP.out.1 hF
        rw [hp] at C5
        have hil2 : is.length = ls.length := by rw [hil, hll]; simp
        clear hp hil hll HFP hFS
        subst hF
        go_wp2_with fail
        refine (C5.out).mono ?_
        rintro e w5 ⟨⟨v5, rfl, hv5⟩, hb5⟩
        have B5 : Hid (Below w.heap.size w w5) := Lib.hid (B2.out.trans (hb5.mono B2.out.size))
        obtain ⟨A5, c5, hv⟩ := owns_shape hv5
        subst hv
        clear hv5 hb5 C5
        simp only [hil2]
        go_wp2_with fail
        go_ret
        exact ⟨by first | rfl | simp, B5.out⟩
      · have hp := HFP.out.2 hF
        rw [hp] at C5
        have hFI : (0 : Int) < (FN : Int) := by omega
        clear hp hll HFP hFS
        go_wp2_with fail
        refine (C5.out).mono ?_
        rintro e w5 ⟨⟨v5, rfl, hv5⟩, hb5⟩
        have B5 : Hid (Below w.heap.size w w5) := Lib.hid (B2.out.trans (hb5.mono B2.out.size))
        obtain ⟨A5, c5, hv⟩ := owns_shape hv5
        subst hv
        clear hv5 hb5 C5
        simp only [List.length_nil]
        go_wp2_with fail
        go_ret
        exact ⟨by first | rfl | simp, B5.out⟩
end Go.Proofs.YtmbacegbcccdjaaDoor
