/-
  Layer 7: what symver.Parse and clevisref07.Parse compute.
  Conditions: none. (My own text.)
-/
import Derived.Test.YthajdklmklaelaaSyc
namespace Go.Proofs.Ythajdklmklaelaa
open Go.RowKit
set_option linter.unusedVariables false
set_option linter.unusedSimpArgs false

/-- What a text is as a symbol: its name, its version, whether it is old. -/
def parseS (s : ByteArray) (d : Bool) : Option (ByteArray × ByteArray × Bool) :=
  if atP s < s.size then
    if at0 (s.extract (atP s + 1) s.size) = true then
      if d = true then
        if nameS (s.extract 0 (atP s)) = true ∧ nameS ((s.extract (atP s + 1) s.size).extract 1 (s.extract (atP s + 1) s.size).size) = true then
          some (s.extract 0 (atP s), (s.extract (atP s + 1) s.size).extract 1 (s.extract (atP s + 1) s.size).size, false) else none
      else none
    else if nameS (s.extract 0 (atP s)) = true ∧ nameS (s.extract (atP s + 1) s.size) = true then some (s.extract 0 (atP s), s.extract (atP s + 1) s.size, d) else none
  else if nameS s = true then some (s, ⟨#[]⟩, false) else none

def symV (n v : ByteArray) (o : Bool) (k : Int) (wk : Bool) (vis : Int) (d : Bool) (va sz : Int) : Value :=
  .agg #[.string n, .string v, .bool o, .int .i64 k, .bool wk, .int .i64 vis, .bool d, .int .i64 va, .int .i64 sz]

def resV (d : Bool) : Option (ByteArray × ByteArray × Bool) → Value
  | none => symV ⟨#[]⟩ ⟨#[]⟩ false 0 false 0 false 0 0
  | some (n, v, o) => symV n v o 0 false 0 d 0 0
def resE : Option (ByteArray × ByteArray × Bool) → Int
  | none => 70
  | some _ => 0

theorem below_drewN {B : Nat} {a w : World} (h : Below B a w) (n : Nat) : Below B a (w.drewN n) := ⟨h.os, h.tape, h.output, h.size, h.block⟩

theorem bcell {W w1 : World} (hb : Below W.heap.size W w1) : (∀ b o, b < W.heap.size → w1.cell? ⟨b, o, none⟩ = W.cell? ⟨b, o, none⟩) ∧ (∀ b o, b < W.heap.size → w1.frozen? ⟨b, o, none⟩ = W.frozen? ⟨b, o, none⟩) :=
  ⟨fun b o h => hb.cell (p := ⟨b, o, none⟩) h, fun b o h => hb.frozen (p := ⟨b, o, none⟩) h⟩

theorem extract_le (s : ByteArray) (a b : Nat) (h : s.size ≤ maxLen) : (s.extract a b).size ≤ maxLen := by
  rw [ByteArray.size_extract]; omega

theorem set9 {w : World} {g : Nat} {c : Array Value} {t : TypeId} (hg : w.heap[g]? = some (.cells c t (0, 0))) (hc : c.size = 9) (v0 v1 v2 v3 v4 v5 v6 v7 v8 : Value) :
    (((((((((w.setCell ⟨g, 0, none⟩ v0).setCell ⟨g, 1, none⟩ v1).setCell ⟨g, 2, none⟩ v2).setCell ⟨g, 3, none⟩ v3).setCell ⟨g, 4, none⟩ v4).setCell ⟨g, 5, none⟩ v5).setCell ⟨g, 6, none⟩ v6).setCell ⟨g, 7, none⟩ v7).setCell ⟨g, 8, none⟩ v8).heap[g]? = some (.cells #[v0, v1, v2, v3, v4, v5, v6, v7, v8] t (0, 0)) := by
  obtain ⟨l⟩ := c
  match l, hc with
  | [_, _, _, _, _, _, _, _, _], _ => simp [World.setCell, Array.getElem?_modify, hg]

theorem results_cell_tmp_row {P : Program} {fn : Func} {p u : Tmp} {ty : TypeId} (h : fn.results = #[.cell p ty, .tmp u]) (tmps : Array Value) (w : World) (g : Nat) (t : TypeId) (cs : Array Value) (fr : Nat × Nat) (d : TypeDesc)
    (hp : tmps.getD p undef = .pointer (some ⟨g, 0, none⟩)) (hg : w.heap[g]? = some (.cells cs t fr))
    (hu : P.underlying ty = some d) (hd : (match d with | .struct _ | .array _ _ => true | _ => false) = true) (hi : (P.info? ty).map (·.size) = some cs.size) :
    (results fn tmps).run P w = .ok (.tuple #[.agg cs, tmps.getD u undef]) w := by
  rw [results_cell_tmp h, hp]
  simp [asAddr, run_loadVar_row w g t ty cs fr d hg hu hd hi, Result.andThen]

theorem below_set9 {B : Nat} {a w : World} (h : Below B a w) {g : Nat} (hB : B ≤ g) (v0 v1 v2 v3 v4 v5 v6 v7 v8 : Value) : Below B a (((((((((w.setCell ⟨g, 0, none⟩ v0).setCell ⟨g, 1, none⟩ v1).setCell ⟨g, 2, none⟩ v2).setCell ⟨g, 3, none⟩ v3).setCell ⟨g, 4, none⟩ v4).setCell ⟨g, 5, none⟩ v5).setCell ⟨g, 6, none⟩ v6).setCell ⟨g, 7, none⟩ v7).setCell ⟨g, 8, none⟩ v8) := by
  repeat (refine Below.setCell ?_ hB _)
  exact h

set_option maxHeartbeats 1000000 in
theorem parse_miss (s : ByteArray) (hs : s.size ≤ maxLen) (d : Bool) (h : ¬ atP s < s.size) (b : Bool) (hb : nameS s = b) (w : World) :
    Calls Try.prog 11 #[.string s, .bool d] w fun e w' => e = .returned (.tuple #[if b = true then symV s ⟨#[]⟩ false 0 false 0 d 0 0 else symV ⟨#[]⟩ ⟨#[]⟩ false 0 false 0 false 0 0, .int .i64 (if b = true then 0 else 70)]) ∧ Below w.heap.size w w' := by
  have C := Lib.hid (fun w : World => cut_miss s h w)
  have N := Lib.hid (fun w : World => (name_any s hs w).mono fun e w' hh => by rw [hb] at hh; exact hh)
  clear h hb
  cases b
  all_goals
    go_enter Try.func11, Try.ntmps11
    go_wp2_with fail
    refine (C.out _).mono ?_
    rintro e w1 ⟨rfl, n, rfl⟩
    go_wp2_with fail
    refine (N.out _).mono ?_
    rintro e w1 ⟨rfl, hb1⟩
    obtain ⟨hc, hf⟩ := bcell hb1
    have hz := hb1.size
    have hg : w1.heap[w.heap.size]? = some (.cells #[.string ⟨#[]⟩, .string ⟨#[]⟩, .bool false, .int .i64 0, .bool false, .int .i64 0, .bool false, .int .i64 0, .int .i64 0] 26 (0, 0)) :=
      (hb1.block w.heap.size (by simp [World.setCell]; omega)).trans (by
        repeat (with_reducible refine (Below.heap_setCell _ _ _ _ (by simp)).trans ?_)
        exact heap_alloc2_old w _ _)
    have hbel : Below w.heap.size w w1 := by
      refine Below.trans ?_ (hb1.mono (by simp [World.setCell]; omega))
      repeat (with_reducible (first | refine Below.setCell ?_ (by simp) _ | refine below_drewN ?_ _ | refine Below.alloc ?_ (by simp) _ | exact Below.refl _ _))
    have HG := Lib.hid hg; clear hg hb1
    go_wp2
    refine bodyPost_ret (results_cell_tmp_row Try.results11 _ _ w.heap.size 26 _ (0, 0) _ rfl (set9 HG.out rfl _ _ _ _ _ _ _ _ _) Try.underlying26 rfl (by kernel_rfl)) rfl ⟨rfl, below_set9 hbel (Nat.le_refl _) _ _ _ _ _ _ _ _ _⟩

-- PATHS

set_option maxHeartbeats 2000000 in
/-- A sign @, no second one behind it; what stands ahead is no name. -/
theorem parse_one_no_false (s n v : ByteArray) (hs : s.size ≤ maxLen) (h : atP s < s.size) (hn : s.extract 0 (atP s) = n) (hv : s.extract (atP s + 1) s.size = v) (h0 : at0 v = false) (hb : nameS n = false) (w : World) :
    Calls Try.prog 11 #[.string s, .bool false] w fun e w' => e = .returned (.tuple #[symV ⟨#[]⟩ ⟨#[]⟩ false 0 false 0 false 0 0, .int .i64 70]) ∧ Below w.heap.size w w' := by
  have ln : n.size ≤ maxLen := by rw [← hn]; exact extract_le s _ _ hs
  have lv : v.size ≤ maxLen := by rw [← hv]; exact extract_le s _ _ hs
  have C := Lib.hid (fun w : World => cut_hit s hs h w)
  rw [hn, hv] at C
  have X := Lib.hid (fun w : World => cutPrefix_miss v h0 w)
  have N := Lib.hid (fun w : World => (name_any n ln w).mono fun e w' hh => by rw [hb] at hh; exact hh)
  clear h hn hv h0 hb hs ln lv
  go_enter Try.func11, Try.ntmps11
  go_wp2_with fail
  refine (C.out _).mono ?_
  rintro e w1 ⟨rfl, q, rfl⟩
  go_wp2_with fail
  refine (X.out _).mono ?_
  rintro e w1 ⟨rfl, rfl⟩
  go_wp2_with fail
  refine (N.out _).mono ?_
  rintro e w1 ⟨rfl, hb1⟩
  obtain ⟨hc, hf⟩ := bcell hb1
  have hz := hb1.size
  have hg : w1.heap[w.heap.size]? = some (.cells #[.string ⟨#[]⟩, .string ⟨#[]⟩, .bool false, .int .i64 0, .bool false, .int .i64 0, .bool false, .int .i64 0, .int .i64 0] 26 (0, 0)) :=
    (hb1.block w.heap.size (by simp [World.setCell]; omega)).trans (by
      repeat (with_reducible refine (Below.heap_setCell _ _ _ _ (by simp)).trans ?_)
      exact heap_alloc2_old w _ _)
  have hbel : Below w.heap.size w w1 := by
    refine Below.trans ?_ (hb1.mono (by simp [World.setCell]; omega))
    repeat (with_reducible (first | refine Below.setCell ?_ (by simp) _ | refine below_drewN ?_ _ | refine Below.alloc ?_ (by simp) _ | exact Below.refl _ _))
  have HG := Lib.hid hg; clear hg hb1
  go_wp2
  have s9 := set9 (t := 26) HG.out rfl
  refine bodyPost_ret (results_cell_tmp_row Try.results11 _ _ w.heap.size 26 _ (0, 0) _ rfl (s9 _ _ _ _ _ _ _ _ _) Try.underlying26 rfl (by kernel_rfl)) rfl ?_
  refine ⟨rfl, ?_⟩
  exact below_set9 hbel (Nat.le_refl _) _ _ _ _ _ _ _ _ _

set_option maxHeartbeats 2000000 in
/-- ..; it is one, the version is none. -/
theorem parse_one_bad_false (s n v : ByteArray) (hs : s.size ≤ maxLen) (h : atP s < s.size) (hn : s.extract 0 (atP s) = n) (hv : s.extract (atP s + 1) s.size = v) (h0 : at0 v = false) (hb : nameS n = true) (hc : nameS v = false) (w : World) :
    Calls Try.prog 11 #[.string s, .bool false] w fun e w' => e = .returned (.tuple #[symV ⟨#[]⟩ ⟨#[]⟩ false 0 false 0 false 0 0, .int .i64 70]) ∧ Below w.heap.size w w' := by
  have ln : n.size ≤ maxLen := by rw [← hn]; exact extract_le s _ _ hs
  have lv : v.size ≤ maxLen := by rw [← hv]; exact extract_le s _ _ hs
  have C := Lib.hid (fun w : World => cut_hit s hs h w)
  rw [hn, hv] at C
  have X := Lib.hid (fun w : World => cutPrefix_miss v h0 w)
  have N := Lib.hid (fun w : World => (name_any n ln w).mono fun e w' hh => by rw [hb] at hh; exact hh)
  have V := Lib.hid (fun w : World => (name_any v lv w).mono fun e w' hh => by rw [hc] at hh; exact hh)
  clear h hn hv h0 hb hc hs ln lv
  go_enter Try.func11, Try.ntmps11
  go_wp2_with fail
  refine (C.out _).mono ?_
  rintro e w1 ⟨rfl, q, rfl⟩
  go_wp2_with fail
  refine (X.out _).mono ?_
  rintro e w1 ⟨rfl, rfl⟩
  go_wp2_with fail
  refine (N.out _).mono ?_
  rintro e w1 ⟨rfl, hb1⟩
  obtain ⟨hc, hf⟩ := bcell hb1
  have hz := hb1.size
  have hg : w1.heap[w.heap.size]? = some (.cells #[.string ⟨#[]⟩, .string ⟨#[]⟩, .bool false, .int .i64 0, .bool false, .int .i64 0, .bool false, .int .i64 0, .int .i64 0] 26 (0, 0)) :=
    (hb1.block w.heap.size (by simp [World.setCell]; omega)).trans (by
      repeat (with_reducible refine (Below.heap_setCell _ _ _ _ (by simp)).trans ?_)
      exact heap_alloc2_old w _ _)
  have hbel : Below w.heap.size w w1 := by
    refine Below.trans ?_ (hb1.mono (by simp [World.setCell]; omega))
    repeat (with_reducible (first | refine Below.setCell ?_ (by simp) _ | refine below_drewN ?_ _ | refine Below.alloc ?_ (by simp) _ | exact Below.refl _ _))
  clear hb1
  go_wp2_with fail
  refine (V.out _).mono ?_
  rintro e w2 ⟨rfl, hb2⟩
  have hl : w.heap.size + 1 < w1.heap.size := by simp [World.setCell] at hz; omega
  have hg2 := (hb2.block w.heap.size (by omega)).trans hg
  have hc2 : ∀ b o, b < w1.heap.size → w2.cell? ⟨b, o, none⟩ = w1.cell? ⟨b, o, none⟩ := (bcell hb2).1
  have hf2 : ∀ b o, b < w1.heap.size → w2.frozen? ⟨b, o, none⟩ = w1.frozen? ⟨b, o, none⟩ := (bcell hb2).2
  have hbel2 : Below w.heap.size w w2 := hbel.trans (hb2.mono (by omega))
  have hl2 : w.heap.size < w1.heap.size := by omega
  have HG := Lib.hid hg2; clear hg hg2 hb2
  go_wp2
  have s9 := set9 (t := 26) HG.out rfl
  refine bodyPost_ret (results_cell_tmp_row Try.results11 _ _ w.heap.size 26 _ (0, 0) _ rfl (s9 _ _ _ _ _ _ _ _ _) Try.underlying26 rfl (by kernel_rfl)) rfl ?_
  refine ⟨rfl, ?_⟩
  exact below_set9 hbel2 (Nat.le_refl _) _ _ _ _ _ _ _ _ _

set_option maxHeartbeats 2000000 in
/-- ..; both are. -/
theorem parse_one_ok_false (s n v : ByteArray) (hs : s.size ≤ maxLen) (h : atP s < s.size) (hn : s.extract 0 (atP s) = n) (hv : s.extract (atP s + 1) s.size = v) (h0 : at0 v = false) (hb : nameS n = true) (hc : nameS v = true) (w : World) :
    Calls Try.prog 11 #[.string s, .bool false] w fun e w' => e = .returned (.tuple #[symV n v false 0 false 0 false 0 0, .int .i64 0]) ∧ Below w.heap.size w w' := by
  have ln : n.size ≤ maxLen := by rw [← hn]; exact extract_le s _ _ hs
  have lv : v.size ≤ maxLen := by rw [← hv]; exact extract_le s _ _ hs
  have C := Lib.hid (fun w : World => cut_hit s hs h w)
  rw [hn, hv] at C
  have X := Lib.hid (fun w : World => cutPrefix_miss v h0 w)
  have N := Lib.hid (fun w : World => (name_any n ln w).mono fun e w' hh => by rw [hb] at hh; exact hh)
  have V := Lib.hid (fun w : World => (name_any v lv w).mono fun e w' hh => by rw [hc] at hh; exact hh)
  clear h hn hv h0 hb hc hs ln lv
  go_enter Try.func11, Try.ntmps11
  go_wp2_with fail
  refine (C.out _).mono ?_
  rintro e w1 ⟨rfl, q, rfl⟩
  go_wp2_with fail
  refine (X.out _).mono ?_
  rintro e w1 ⟨rfl, rfl⟩
  go_wp2_with fail
  refine (N.out _).mono ?_
  rintro e w1 ⟨rfl, hb1⟩
  obtain ⟨hc, hf⟩ := bcell hb1
  have hz := hb1.size
  have hg : w1.heap[w.heap.size]? = some (.cells #[.string ⟨#[]⟩, .string ⟨#[]⟩, .bool false, .int .i64 0, .bool false, .int .i64 0, .bool false, .int .i64 0, .int .i64 0] 26 (0, 0)) :=
    (hb1.block w.heap.size (by simp [World.setCell]; omega)).trans (by
      repeat (with_reducible refine (Below.heap_setCell _ _ _ _ (by simp)).trans ?_)
      exact heap_alloc2_old w _ _)
  have hbel : Below w.heap.size w w1 := by
    refine Below.trans ?_ (hb1.mono (by simp [World.setCell]; omega))
    repeat (with_reducible (first | refine Below.setCell ?_ (by simp) _ | refine below_drewN ?_ _ | refine Below.alloc ?_ (by simp) _ | exact Below.refl _ _))
  clear hb1
  go_wp2_with fail
  refine (V.out _).mono ?_
  rintro e w2 ⟨rfl, hb2⟩
  have hl : w.heap.size + 1 < w1.heap.size := by simp [World.setCell] at hz; omega
  have hg2 := (hb2.block w.heap.size (by omega)).trans hg
  have hc2 : ∀ b o, b < w1.heap.size → w2.cell? ⟨b, o, none⟩ = w1.cell? ⟨b, o, none⟩ := (bcell hb2).1
  have hf2 : ∀ b o, b < w1.heap.size → w2.frozen? ⟨b, o, none⟩ = w1.frozen? ⟨b, o, none⟩ := (bcell hb2).2
  have hbel2 : Below w.heap.size w w2 := hbel.trans (hb2.mono (by omega))
  have hl2 : w.heap.size < w1.heap.size := by omega
  have HG := Lib.hid hg2; clear hg hg2 hb2
  go_wp2
  have s9 := set9 (t := 26) HG.out rfl
  refine bodyPost_ret (results_cell_tmp_row Try.results11 _ _ w.heap.size 26 _ (0, 0) _ rfl (s9 _ _ _ _ _ _ _ _ _) Try.underlying26 rfl (by kernel_rfl)) rfl ?_
  refine ⟨rfl, ?_⟩
  exact below_set9 hbel2 (Nat.le_refl _) _ _ _ _ _ _ _ _ _

set_option maxHeartbeats 2000000 in
/-- A sign @, no second one behind it; what stands ahead is no name. -/
theorem parse_one_no_true (s n v : ByteArray) (hs : s.size ≤ maxLen) (h : atP s < s.size) (hn : s.extract 0 (atP s) = n) (hv : s.extract (atP s + 1) s.size = v) (h0 : at0 v = false) (hb : nameS n = false) (w : World) :
    Calls Try.prog 11 #[.string s, .bool true] w fun e w' => e = .returned (.tuple #[symV ⟨#[]⟩ ⟨#[]⟩ false 0 false 0 false 0 0, .int .i64 70]) ∧ Below w.heap.size w w' := by
  have ln : n.size ≤ maxLen := by rw [← hn]; exact extract_le s _ _ hs
  have lv : v.size ≤ maxLen := by rw [← hv]; exact extract_le s _ _ hs
  have C := Lib.hid (fun w : World => cut_hit s hs h w)
  rw [hn, hv] at C
  have X := Lib.hid (fun w : World => cutPrefix_miss v h0 w)
  have N := Lib.hid (fun w : World => (name_any n ln w).mono fun e w' hh => by rw [hb] at hh; exact hh)
  clear h hn hv h0 hb hs ln lv
  go_enter Try.func11, Try.ntmps11
  go_wp2_with fail
  refine (C.out _).mono ?_
  rintro e w1 ⟨rfl, q, rfl⟩
  go_wp2_with fail
  refine (X.out _).mono ?_
  rintro e w1 ⟨rfl, rfl⟩
  go_wp2_with fail
  refine (N.out _).mono ?_
  rintro e w1 ⟨rfl, hb1⟩
  obtain ⟨hc, hf⟩ := bcell hb1
  have hz := hb1.size
  have hg : w1.heap[w.heap.size]? = some (.cells #[.string ⟨#[]⟩, .string ⟨#[]⟩, .bool false, .int .i64 0, .bool false, .int .i64 0, .bool false, .int .i64 0, .int .i64 0] 26 (0, 0)) :=
    (hb1.block w.heap.size (by simp [World.setCell]; omega)).trans (by
      repeat (with_reducible refine (Below.heap_setCell _ _ _ _ (by simp)).trans ?_)
      exact heap_alloc2_old w _ _)
  have hbel : Below w.heap.size w w1 := by
    refine Below.trans ?_ (hb1.mono (by simp [World.setCell]; omega))
    repeat (with_reducible (first | refine Below.setCell ?_ (by simp) _ | refine below_drewN ?_ _ | refine Below.alloc ?_ (by simp) _ | exact Below.refl _ _))
  have HG := Lib.hid hg; clear hg hb1
  go_wp2
  have s9 := set9 (t := 26) HG.out rfl
  refine bodyPost_ret (results_cell_tmp_row Try.results11 _ _ w.heap.size 26 _ (0, 0) _ rfl (s9 _ _ _ _ _ _ _ _ _) Try.underlying26 rfl (by kernel_rfl)) rfl ?_
  refine ⟨rfl, ?_⟩
  exact below_set9 hbel (Nat.le_refl _) _ _ _ _ _ _ _ _ _

set_option maxHeartbeats 2000000 in
/-- ..; it is one, the version is none. -/
theorem parse_one_bad_true (s n v : ByteArray) (hs : s.size ≤ maxLen) (h : atP s < s.size) (hn : s.extract 0 (atP s) = n) (hv : s.extract (atP s + 1) s.size = v) (h0 : at0 v = false) (hb : nameS n = true) (hc : nameS v = false) (w : World) :
    Calls Try.prog 11 #[.string s, .bool true] w fun e w' => e = .returned (.tuple #[symV ⟨#[]⟩ ⟨#[]⟩ false 0 false 0 false 0 0, .int .i64 70]) ∧ Below w.heap.size w w' := by
  have ln : n.size ≤ maxLen := by rw [← hn]; exact extract_le s _ _ hs
  have lv : v.size ≤ maxLen := by rw [← hv]; exact extract_le s _ _ hs
  have C := Lib.hid (fun w : World => cut_hit s hs h w)
  rw [hn, hv] at C
  have X := Lib.hid (fun w : World => cutPrefix_miss v h0 w)
  have N := Lib.hid (fun w : World => (name_any n ln w).mono fun e w' hh => by rw [hb] at hh; exact hh)
  have V := Lib.hid (fun w : World => (name_any v lv w).mono fun e w' hh => by rw [hc] at hh; exact hh)
  clear h hn hv h0 hb hc hs ln lv
  go_enter Try.func11, Try.ntmps11
  go_wp2_with fail
  refine (C.out _).mono ?_
  rintro e w1 ⟨rfl, q, rfl⟩
  go_wp2_with fail
  refine (X.out _).mono ?_
  rintro e w1 ⟨rfl, rfl⟩
  go_wp2_with fail
  refine (N.out _).mono ?_
  rintro e w1 ⟨rfl, hb1⟩
  obtain ⟨hc, hf⟩ := bcell hb1
  have hz := hb1.size
  have hg : w1.heap[w.heap.size]? = some (.cells #[.string ⟨#[]⟩, .string ⟨#[]⟩, .bool false, .int .i64 0, .bool false, .int .i64 0, .bool false, .int .i64 0, .int .i64 0] 26 (0, 0)) :=
    (hb1.block w.heap.size (by simp [World.setCell]; omega)).trans (by
      repeat (with_reducible refine (Below.heap_setCell _ _ _ _ (by simp)).trans ?_)
      exact heap_alloc2_old w _ _)
  have hbel : Below w.heap.size w w1 := by
    refine Below.trans ?_ (hb1.mono (by simp [World.setCell]; omega))
    repeat (with_reducible (first | refine Below.setCell ?_ (by simp) _ | refine below_drewN ?_ _ | refine Below.alloc ?_ (by simp) _ | exact Below.refl _ _))
  clear hb1
  go_wp2_with fail
  refine (V.out _).mono ?_
  rintro e w2 ⟨rfl, hb2⟩
  have hl : w.heap.size + 1 < w1.heap.size := by simp [World.setCell] at hz; omega
  have hg2 := (hb2.block w.heap.size (by omega)).trans hg
  have hc2 : ∀ b o, b < w1.heap.size → w2.cell? ⟨b, o, none⟩ = w1.cell? ⟨b, o, none⟩ := (bcell hb2).1
  have hf2 : ∀ b o, b < w1.heap.size → w2.frozen? ⟨b, o, none⟩ = w1.frozen? ⟨b, o, none⟩ := (bcell hb2).2
  have hbel2 : Below w.heap.size w w2 := hbel.trans (hb2.mono (by omega))
  have hl2 : w.heap.size < w1.heap.size := by omega
  have HG := Lib.hid hg2; clear hg hg2 hb2
  go_wp2
  have s9 := set9 (t := 26) HG.out rfl
  refine bodyPost_ret (results_cell_tmp_row Try.results11 _ _ w.heap.size 26 _ (0, 0) _ rfl (s9 _ _ _ _ _ _ _ _ _) Try.underlying26 rfl (by kernel_rfl)) rfl ?_
  refine ⟨rfl, ?_⟩
  exact below_set9 hbel2 (Nat.le_refl _) _ _ _ _ _ _ _ _ _

set_option maxHeartbeats 2000000 in
/-- ..; both are. -/
theorem parse_one_ok_true (s n v : ByteArray) (hs : s.size ≤ maxLen) (h : atP s < s.size) (hn : s.extract 0 (atP s) = n) (hv : s.extract (atP s + 1) s.size = v) (h0 : at0 v = false) (hb : nameS n = true) (hc : nameS v = true) (w : World) :
    Calls Try.prog 11 #[.string s, .bool true] w fun e w' => e = .returned (.tuple #[symV n v true 0 false 0 true 0 0, .int .i64 0]) ∧ Below w.heap.size w w' := by
  have ln : n.size ≤ maxLen := by rw [← hn]; exact extract_le s _ _ hs
  have lv : v.size ≤ maxLen := by rw [← hv]; exact extract_le s _ _ hs
  have C := Lib.hid (fun w : World => cut_hit s hs h w)
  rw [hn, hv] at C
  have X := Lib.hid (fun w : World => cutPrefix_miss v h0 w)
  have N := Lib.hid (fun w : World => (name_any n ln w).mono fun e w' hh => by rw [hb] at hh; exact hh)
  have V := Lib.hid (fun w : World => (name_any v lv w).mono fun e w' hh => by rw [hc] at hh; exact hh)
  clear h hn hv h0 hb hc hs ln lv
  go_enter Try.func11, Try.ntmps11
  go_wp2_with fail
  refine (C.out _).mono ?_
  rintro e w1 ⟨rfl, q, rfl⟩
  go_wp2_with fail
  refine (X.out _).mono ?_
  rintro e w1 ⟨rfl, rfl⟩
  go_wp2_with fail
  refine (N.out _).mono ?_
  rintro e w1 ⟨rfl, hb1⟩
  obtain ⟨hc, hf⟩ := bcell hb1
  have hz := hb1.size
  have hg : w1.heap[w.heap.size]? = some (.cells #[.string ⟨#[]⟩, .string ⟨#[]⟩, .bool false, .int .i64 0, .bool false, .int .i64 0, .bool false, .int .i64 0, .int .i64 0] 26 (0, 0)) :=
    (hb1.block w.heap.size (by simp [World.setCell]; omega)).trans (by
      repeat (with_reducible refine (Below.heap_setCell _ _ _ _ (by simp)).trans ?_)
      exact heap_alloc2_old w _ _)
  have hbel : Below w.heap.size w w1 := by
    refine Below.trans ?_ (hb1.mono (by simp [World.setCell]; omega))
    repeat (with_reducible (first | refine Below.setCell ?_ (by simp) _ | refine below_drewN ?_ _ | refine Below.alloc ?_ (by simp) _ | exact Below.refl _ _))
  clear hb1
  go_wp2_with fail
  refine (V.out _).mono ?_
  rintro e w2 ⟨rfl, hb2⟩
  have hl : w.heap.size + 1 < w1.heap.size := by simp [World.setCell] at hz; omega
  have hg2 := (hb2.block w.heap.size (by omega)).trans hg
  have hc2 : ∀ b o, b < w1.heap.size → w2.cell? ⟨b, o, none⟩ = w1.cell? ⟨b, o, none⟩ := (bcell hb2).1
  have hf2 : ∀ b o, b < w1.heap.size → w2.frozen? ⟨b, o, none⟩ = w1.frozen? ⟨b, o, none⟩ := (bcell hb2).2
  have hbel2 : Below w.heap.size w w2 := hbel.trans (hb2.mono (by omega))
  have hl2 : w.heap.size < w1.heap.size := by omega
  have HG := Lib.hid hg2; clear hg hg2 hb2
  go_wp2
  have s9 := set9 (t := 26) HG.out rfl
  refine bodyPost_ret (results_cell_tmp_row Try.results11 _ _ w.heap.size 26 _ (0, 0) _ rfl (s9 _ _ _ _ _ _ _ _ _) Try.underlying26 rfl (by kernel_rfl)) rfl ?_
  refine ⟨rfl, ?_⟩
  exact below_set9 hbel2 (Nat.le_refl _) _ _ _ _ _ _ _ _ _

set_option maxHeartbeats 2000000 in
/-- A second sign @, a definition; no name. -/
theorem parse_two_no (s n v : ByteArray) (hs : s.size ≤ maxLen) (h : atP s < s.size) (hn : s.extract 0 (atP s) = n) (hv : s.extract (atP s + 1) s.size = v) (h0 : at0 v = true) (hb : nameS n = false) (w : World) :
    Calls Try.prog 11 #[.string s, .bool true] w fun e w' => e = .returned (.tuple #[symV ⟨#[]⟩ ⟨#[]⟩ false 0 false 0 false 0 0, .int .i64 70]) ∧ Below w.heap.size w w' := by
  have ln : n.size ≤ maxLen := by rw [← hn]; exact extract_le s _ _ hs
  have lv : v.size ≤ maxLen := by rw [← hv]; exact extract_le s _ _ hs
  have C := Lib.hid (fun w : World => cut_hit s hs h w)
  rw [hn, hv] at C
  have X := Lib.hid (fun w : World => cutPrefix_hit v lv h0 w)
  have N := Lib.hid (fun w : World => (name_any n ln w).mono fun e w' hh => by rw [hb] at hh; exact hh)
  generalize v.extract 1 v.size = u at *
  clear h hn hv h0 hb hs ln lv
  go_enter Try.func11, Try.ntmps11
  go_wp2_with fail
  refine (C.out _).mono ?_
  rintro e w1 ⟨rfl, q, rfl⟩
  go_wp2_with fail
  refine (X.out _).mono ?_
  rintro e w1 ⟨rfl, rfl⟩
  go_wp2_with fail
  refine (N.out _).mono ?_
  rintro e w1 ⟨rfl, hb1⟩
  obtain ⟨hc, hf⟩ := bcell hb1
  have hz := hb1.size
  have hg : w1.heap[w.heap.size]? = some (.cells #[.string ⟨#[]⟩, .string ⟨#[]⟩, .bool false, .int .i64 0, .bool false, .int .i64 0, .bool false, .int .i64 0, .int .i64 0] 26 (0, 0)) :=
    (hb1.block w.heap.size (by simp [World.setCell]; omega)).trans (by
      repeat (with_reducible refine (Below.heap_setCell _ _ _ _ (by simp)).trans ?_)
      exact heap_alloc2_old w _ _)
  have hbel : Below w.heap.size w w1 := by
    refine Below.trans ?_ (hb1.mono (by simp [World.setCell]; omega))
    repeat (with_reducible (first | refine Below.setCell ?_ (by simp) _ | refine below_drewN ?_ _ | refine Below.alloc ?_ (by simp) _ | exact Below.refl _ _))
  have HG := Lib.hid hg; clear hg hb1
  go_wp2
  have s9 := set9 (t := 26) HG.out rfl
  refine bodyPost_ret (results_cell_tmp_row Try.results11 _ _ w.heap.size 26 _ (0, 0) _ rfl (s9 _ _ _ _ _ _ _ _ _) Try.underlying26 rfl (by kernel_rfl)) rfl ?_
  refine ⟨rfl, ?_⟩
  exact below_set9 hbel (Nat.le_refl _) _ _ _ _ _ _ _ _ _

set_option maxHeartbeats 2000000 in
/-- ..; the version is none. -/
theorem parse_two_bad (s n v : ByteArray) (hs : s.size ≤ maxLen) (h : atP s < s.size) (hn : s.extract 0 (atP s) = n) (hv : s.extract (atP s + 1) s.size = v) (h0 : at0 v = true) (hb : nameS n = true) (hc : nameS (v.extract 1 v.size) = false) (w : World) :
    Calls Try.prog 11 #[.string s, .bool true] w fun e w' => e = .returned (.tuple #[symV ⟨#[]⟩ ⟨#[]⟩ false 0 false 0 false 0 0, .int .i64 70]) ∧ Below w.heap.size w w' := by
  have ln : n.size ≤ maxLen := by rw [← hn]; exact extract_le s _ _ hs
  have lv : v.size ≤ maxLen := by rw [← hv]; exact extract_le s _ _ hs
  have C := Lib.hid (fun w : World => cut_hit s hs h w)
  rw [hn, hv] at C
  have X := Lib.hid (fun w : World => cutPrefix_hit v lv h0 w)
  have N := Lib.hid (fun w : World => (name_any n ln w).mono fun e w' hh => by rw [hb] at hh; exact hh)
  have lu : (v.extract 1 v.size).size ≤ maxLen := extract_le v _ _ lv
  have V := Lib.hid (fun w : World => (name_any (v.extract 1 v.size) lu w).mono fun e w' hh => by rw [hc] at hh; exact hh)
  clear lu
  generalize v.extract 1 v.size = u at *
  clear h hn hv h0 hb hc hs ln lv
  go_enter Try.func11, Try.ntmps11
  go_wp2_with fail
  refine (C.out _).mono ?_
  rintro e w1 ⟨rfl, q, rfl⟩
  go_wp2_with fail
  refine (X.out _).mono ?_
  rintro e w1 ⟨rfl, rfl⟩
  go_wp2_with fail
  refine (N.out _).mono ?_
  rintro e w1 ⟨rfl, hb1⟩
  obtain ⟨hc, hf⟩ := bcell hb1
  have hz := hb1.size
  have hg : w1.heap[w.heap.size]? = some (.cells #[.string ⟨#[]⟩, .string ⟨#[]⟩, .bool false, .int .i64 0, .bool false, .int .i64 0, .bool false, .int .i64 0, .int .i64 0] 26 (0, 0)) :=
    (hb1.block w.heap.size (by simp [World.setCell]; omega)).trans (by
      repeat (with_reducible refine (Below.heap_setCell _ _ _ _ (by simp)).trans ?_)
      exact heap_alloc2_old w _ _)
  have hbel : Below w.heap.size w w1 := by
    refine Below.trans ?_ (hb1.mono (by simp [World.setCell]; omega))
    repeat (with_reducible (first | refine Below.setCell ?_ (by simp) _ | refine below_drewN ?_ _ | refine Below.alloc ?_ (by simp) _ | exact Below.refl _ _))
  clear hb1
  go_wp2_with fail
  refine (V.out _).mono ?_
  rintro e w2 ⟨rfl, hb2⟩
  have hl : w.heap.size + 1 < w1.heap.size := by simp [World.setCell] at hz; omega
  have hg2 := (hb2.block w.heap.size (by omega)).trans hg
  have hc2 : ∀ b o, b < w1.heap.size → w2.cell? ⟨b, o, none⟩ = w1.cell? ⟨b, o, none⟩ := (bcell hb2).1
  have hf2 : ∀ b o, b < w1.heap.size → w2.frozen? ⟨b, o, none⟩ = w1.frozen? ⟨b, o, none⟩ := (bcell hb2).2
  have hbel2 : Below w.heap.size w w2 := hbel.trans (hb2.mono (by omega))
  have hl2 : w.heap.size < w1.heap.size := by omega
  have HG := Lib.hid hg2; clear hg hg2 hb2
  go_wp2
  have s9 := set9 (t := 26) HG.out rfl
  refine bodyPost_ret (results_cell_tmp_row Try.results11 _ _ w.heap.size 26 _ (0, 0) _ rfl (s9 _ _ _ _ _ _ _ _ _) Try.underlying26 rfl (by kernel_rfl)) rfl ?_
  refine ⟨rfl, ?_⟩
  exact below_set9 hbel2 (Nat.le_refl _) _ _ _ _ _ _ _ _ _

set_option maxHeartbeats 2000000 in
/-- ..; both are. -/
theorem parse_two_ok (s n v : ByteArray) (hs : s.size ≤ maxLen) (h : atP s < s.size) (hn : s.extract 0 (atP s) = n) (hv : s.extract (atP s + 1) s.size = v) (h0 : at0 v = true) (hb : nameS n = true) (hc : nameS (v.extract 1 v.size) = true) (w : World) :
    Calls Try.prog 11 #[.string s, .bool true] w fun e w' => e = .returned (.tuple #[symV n (v.extract 1 v.size) false 0 false 0 true 0 0, .int .i64 0]) ∧ Below w.heap.size w w' := by
  have ln : n.size ≤ maxLen := by rw [← hn]; exact extract_le s _ _ hs
  have lv : v.size ≤ maxLen := by rw [← hv]; exact extract_le s _ _ hs
  have C := Lib.hid (fun w : World => cut_hit s hs h w)
  rw [hn, hv] at C
  have X := Lib.hid (fun w : World => cutPrefix_hit v lv h0 w)
  have N := Lib.hid (fun w : World => (name_any n ln w).mono fun e w' hh => by rw [hb] at hh; exact hh)
  have lu : (v.extract 1 v.size).size ≤ maxLen := extract_le v _ _ lv
  have V := Lib.hid (fun w : World => (name_any (v.extract 1 v.size) lu w).mono fun e w' hh => by rw [hc] at hh; exact hh)
  clear lu
  generalize v.extract 1 v.size = u at *
  clear h hn hv h0 hb hc hs ln lv
  go_enter Try.func11, Try.ntmps11
  go_wp2_with fail
  refine (C.out _).mono ?_
  rintro e w1 ⟨rfl, q, rfl⟩
  go_wp2_with fail
  refine (X.out _).mono ?_
  rintro e w1 ⟨rfl, rfl⟩
  go_wp2_with fail
  refine (N.out _).mono ?_
  rintro e w1 ⟨rfl, hb1⟩
  obtain ⟨hc, hf⟩ := bcell hb1
  have hz := hb1.size
  have hg : w1.heap[w.heap.size]? = some (.cells #[.string ⟨#[]⟩, .string ⟨#[]⟩, .bool false, .int .i64 0, .bool false, .int .i64 0, .bool false, .int .i64 0, .int .i64 0] 26 (0, 0)) :=
    (hb1.block w.heap.size (by simp [World.setCell]; omega)).trans (by
      repeat (with_reducible refine (Below.heap_setCell _ _ _ _ (by simp)).trans ?_)
      exact heap_alloc2_old w _ _)
  have hbel : Below w.heap.size w w1 := by
    refine Below.trans ?_ (hb1.mono (by simp [World.setCell]; omega))
    repeat (with_reducible (first | refine Below.setCell ?_ (by simp) _ | refine below_drewN ?_ _ | refine Below.alloc ?_ (by simp) _ | exact Below.refl _ _))
  clear hb1
  go_wp2_with fail
  refine (V.out _).mono ?_
  rintro e w2 ⟨rfl, hb2⟩
  have hl : w.heap.size + 1 < w1.heap.size := by simp [World.setCell] at hz; omega
  have hg2 := (hb2.block w.heap.size (by omega)).trans hg
  have hc2 : ∀ b o, b < w1.heap.size → w2.cell? ⟨b, o, none⟩ = w1.cell? ⟨b, o, none⟩ := (bcell hb2).1
  have hf2 : ∀ b o, b < w1.heap.size → w2.frozen? ⟨b, o, none⟩ = w1.frozen? ⟨b, o, none⟩ := (bcell hb2).2
  have hbel2 : Below w.heap.size w w2 := hbel.trans (hb2.mono (by omega))
  have hl2 : w.heap.size < w1.heap.size := by omega
  have HG := Lib.hid hg2; clear hg hg2 hb2
  go_wp2
  have s9 := set9 (t := 26) HG.out rfl
  refine bodyPost_ret (results_cell_tmp_row Try.results11 _ _ w.heap.size 26 _ (0, 0) _ rfl (s9 _ _ _ _ _ _ _ _ _) Try.underlying26 rfl (by kernel_rfl)) rfl ?_
  refine ⟨rfl, ?_⟩
  exact below_set9 hbel2 (Nat.le_refl _) _ _ _ _ _ _ _ _ _

set_option maxHeartbeats 2000000 in
/-- A second sign @, asked for: refused. -/
theorem parse_two_ref (s n v : ByteArray) (hs : s.size ≤ maxLen) (h : atP s < s.size) (hn : s.extract 0 (atP s) = n) (hv : s.extract (atP s + 1) s.size = v) (h0 : at0 v = true) (w : World) :
    Calls Try.prog 11 #[.string s, .bool false] w fun e w' => e = .returned (.tuple #[symV ⟨#[]⟩ ⟨#[]⟩ false 0 false 0 false 0 0, .int .i64 70]) ∧ Below w.heap.size w w' := by
  have ln : n.size ≤ maxLen := by rw [← hn]; exact extract_le s _ _ hs
  have lv : v.size ≤ maxLen := by rw [← hv]; exact extract_le s _ _ hs
  have C := Lib.hid (fun w : World => cut_hit s hs h w)
  rw [hn, hv] at C
  have X := Lib.hid (fun w : World => cutPrefix_hit v lv h0 w)
  generalize v.extract 1 v.size = u at *
  clear h hn hv h0 hs ln lv
  go_enter Try.func11, Try.ntmps11
  go_wp2_with fail
  refine (C.out _).mono ?_
  rintro e w1 ⟨rfl, q, rfl⟩
  go_wp2_with fail
  refine (X.out _).mono ?_
  rintro e w1 ⟨rfl, rfl⟩
  go_wp2
  have hb0 : Below w.heap.size w (((w.alloc (.cells #[.string ⟨#[]⟩, .string ⟨#[]⟩, .bool false, .int .i64 0, .bool false, .int .i64 0, .bool false, .int .i64 0, .int .i64 0] 26)).alloc (.cells #[.string ⟨#[]⟩, .string ⟨#[]⟩, .bool false, .int .i64 0, .bool false, .int .i64 0, .bool false, .int .i64 0, .int .i64 0] 26)).drewN q) := by
    repeat (with_reducible (first | refine below_drewN ?_ _ | refine Below.alloc ?_ (by simp) _ | exact Below.refl _ _))
  have HG := Lib.hid (heap_alloc2_old w (.cells #[.string ⟨#[]⟩, .string ⟨#[]⟩, .bool false, .int .i64 0, .bool false, .int .i64 0, .bool false, .int .i64 0, .int .i64 0] 26) (.cells #[.string ⟨#[]⟩, .string ⟨#[]⟩, .bool false, .int .i64 0, .bool false, .int .i64 0, .bool false, .int .i64 0, .int .i64 0] 26))
  have s9 := set9 (w := ((w.alloc (.cells #[.string ⟨#[]⟩, .string ⟨#[]⟩, .bool false, .int .i64 0, .bool false, .int .i64 0, .bool false, .int .i64 0, .int .i64 0] 26)).alloc (.cells #[.string ⟨#[]⟩, .string ⟨#[]⟩, .bool false, .int .i64 0, .bool false, .int .i64 0, .bool false, .int .i64 0, .int .i64 0] 26)).drewN q) (t := 26) HG.out rfl
  refine bodyPost_ret (results_cell_tmp_row Try.results11 _ _ w.heap.size 26 _ (0, 0) _ rfl (s9 _ _ _ _ _ _ _ _ _) Try.underlying26 rfl (by kernel_rfl)) rfl ?_
  refine ⟨rfl, ?_⟩
  exact below_set9 hb0 (Nat.le_refl _) _ _ _ _ _ _ _ _ _

end Go.Proofs.Ythajdklmklaelaa
