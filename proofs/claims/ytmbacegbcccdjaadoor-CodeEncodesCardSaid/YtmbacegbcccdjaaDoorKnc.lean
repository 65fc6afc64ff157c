/-
  Layer 4: what 'number' computes, of the document and of the program.
  Conditions: none. (My own text.)
-/
import Derived.Test.YtmbacegbcccdjaaDoorKnb
namespace Go.Proofs.YtmbacegbcccdjaaDoor
open Go.RowKit Go.Lib
set_option linter.unusedVariables false
set_option linter.unusedSimpArgs false

/-- The number that a text is, as it is written; where it is none, whatever number, and no. -/
def NumE (o : Option Int) (w : World) (e : Ending) (w' : World) : Prop := (∃ (v : Int) (ok : Bool), e = .returned (.tuple #[.int .i64 v, .bool ok]) ∧ (match o with | some n => ok = true ∧ v = n | none => ok = false)) ∧ Below w.heap.size w w'
theorem toList_data (s : ByteArray) : s.toList = s.data.toList := ByteArray.toList_eq s
theorem str_eq (l : List UInt8) (s : ByteArray) : ((⟨l.toArray⟩ : ByteArray) = s) ↔ l = s.data.toList := by
  constructor
  · rintro rfl; rfl
  · rintro rfl; rfl

set_option maxRecDepth 100000 in
set_option maxHeartbeats 4000000 in
theorem rnumber_any (s : ByteArray) (hs : s.size ≤ 281474976710656) (w : World) (hL : LaidW w) : Calls Tryd.prog 49 #[.string s] w (NumE (numS s.data.toList) w) := by
  have HL := Lib.hid hL
  clear hL
  go_enter Tryd.func49, Tryd.ntmps49
  go_wp2_with fail
  refine (atoi_any s hs w HL.out).mono ?_
  rintro e w1 ⟨⟨v, r, ok, rfl, hv, hc⟩, hb⟩
  have HC := Lib.hid hc
  have HB := Lib.hid hb
  have hv0 := hv.1
  have hv1 := hv.2
  clear hc hb hv
  go_wp2_with fail
  refine (itoa_any v hv0 hv1 w1 (HL.out.below HB.out)).mono ?_
  rintro e w2 ⟨rfl, hb⟩
  have HB2 := Lib.hid (HB.out.trans (hb.mono HB.out.size))
  clear hb
  go_wp2
  go_ret2
  refine ⟨⟨v, _, rfl, ?_⟩, HB2.out⟩
  rw [toList_data]
  rcases HC.out with ⟨rfl, _, h⟩ | ⟨rfl, _, h⟩
  · by_cases e : itoa v = s.data.toList
    · rw [numS_ok h e]
      exact ⟨beq_iff_eq.2 e, rfl⟩
    · have hn : numS s.data.toList = none := by unfold numS; rw [h]; simp [e]
      rw [hn]
      exact beq_eq_false_iff_ne.2 e
  · have hn : numS s.data.toList = none := by
      unfold numS
      cases h2 : atoiAll s.data.toList with
      | ok u => exact absurd h2 (h u)
      | range => rfl
      | _ => rfl
    rw [hn]
    exact beq_eq_false_iff_ne.2 (numS_none hv0 hv1 hn)

/-- .. within bounds. -/
def numR (s : List UInt8) (lo hi : Int) : Option Int := match numS s with
  | some n => if lo ≤ n ∧ n ≤ hi then some n else none
  | none => none
set_option maxRecDepth 100000 in
set_option maxHeartbeats 4000000 in
theorem number_any (s : ByteArray) (hs : s.size ≤ 281474976710656) (lo hi : Int) (w : World) (hL : LaidW w) : Calls Tryd.prog 48 #[.string s, .int .i64 lo, .int .i64 hi] w (NumE (numR s.data.toList lo hi) w) := by
  have HL := Lib.hid hL
  clear hL
  go_enter Tryd.func48, Tryd.ntmps48
  go_wp2_with fail
  refine (atoi_any s hs w HL.out).mono ?_
  rintro e w1 ⟨⟨v, r, ok, rfl, hv, hc⟩, hb⟩
  have HB := Lib.hid hb
  have hv0 := hv.1
  have hv1 := hv.2
  clear hb hv
  rcases hc with ⟨rfl, rfl, h⟩ | ⟨rfl, ⟨T, p, rfl⟩, h⟩
  · have HC := Lib.hid h
    clear h
    by_cases h1 : lo ≤ v
    · by_cases h2 : v ≤ hi
      · have d1 : decide (lo ≤ v) = true := decide_eq_true h1
        have d2 : decide (v ≤ hi) = true := decide_eq_true h2
        go_wp2_with fail
        refine (itoa_any v hv0 hv1 w1 (HL.out.below HB.out)).mono ?_
        rintro e w2 ⟨rfl, hb⟩
        have HB2 := Lib.hid (HB.out.trans (hb.mono HB.out.size))
        clear hb
        go_wp2
        go_ret2
        refine ⟨⟨v, _, rfl, ?_⟩, HB2.out⟩
        rw [toList_data]
        unfold numR
        by_cases e : itoa v = s.data.toList
        · rw [numS_ok HC.out e]
          simp only
          rw [if_pos ⟨h1, h2⟩]
          exact ⟨beq_iff_eq.2 e, rfl⟩
        · have hn : numS s.data.toList = none := by unfold numS; rw [HC.out]; simp [e]
          rw [hn]
          exact beq_eq_false_iff_ne.2 e
      · go_wp2
        go_ret2
        refine ⟨⟨v, _, rfl, ?_⟩, HB.out⟩
        unfold numR numS
        rw [HC.out]
        have hno : ¬ (lo ≤ v ∧ v ≤ hi) := by omega
        by_cases e : itoa v = s.data.toList <;> simp [e, if_neg hno]
    · go_wp2
      go_ret2
      refine ⟨⟨v, _, rfl, ?_⟩, HB.out⟩
      unfold numR numS
      rw [HC.out]
      have hno : ¬ (lo ≤ v ∧ v ≤ hi) := by omega
      by_cases e : itoa v = s.data.toList <;> simp [e, if_neg hno]
  · have HC := Lib.hid h
    clear h
    go_wp2
    go_ret2
    refine ⟨⟨v, _, rfl, ?_⟩, HB.out⟩
    have hn : numS s.data.toList = none := by
      unfold numS
      cases h2 : atoiAll s.data.toList with
      | ok u => exact absurd h2 (HC.out u)
      | range => rfl
      | _ => rfl
    unfold numR
    rw [hn]
end Go.Proofs.YtmbacegbcccdjaaDoor
