/-
  RelocOne: the walk.
  Conditions: none. (My own text.)
-/
import Derived.Test.YtpononkgeeahdaaRelb
import Derived.Test.YtpononkgeeahdaaRel3
namespace Go.Proofs.Ytpononkgeeahdaa
open Go.RowKit Spm
set_option linter.unusedVariables false
set_option linter.unusedSimpArgs false

/-- Is it another place than the word's? -/
theorem apart_test (x y : Int) : (x ≤ y ∧ y - x < 8) ∨ (y < x) ∨ (x ≤ y ∧ 8 ≤ y - x) := by omega

set_option maxRecDepth 100000 in
set_option maxHeartbeats 8000000 in
theorem one_walk (v : Value) (l : List ActM) (base : Int) (ra rk rsy rad fba fad fsz fmo fof fbe : Int) (fst_ fmi : Bool) (y : Int) (hy : I64 y) (hfa : fad ≤ 9223372036854775807) (hfs : I64 fsz) (hfm : I64 fmo) (w : World) (hv : ActsV w w.heap.size v l) :
    Calls Try.prog 9 #[v, .int .i64 base, .agg #[.int .i64 ra, .int .i64 rk, .int .i64 rsy, .int .i64 rad], .agg #[.int .i64 fba, .int .i64 fad, .int .i64 fsz, .int .i64 fmo, .int .i64 fof, .int .i64 fbe, .bool fst_, .bool fmi], .int .i64 y] w fun e w' => e = .returned (.bool true) ∧ Below w.heap.size w w' := by
  obtain ⟨hy0, hy1⟩ := hy
  have hw0 : Below w.heap.size w ((w.alloc (.cells #[.int .i64 ra, .int .i64 rk, .int .i64 rsy, .int .i64 rad] 24)).alloc (.cells #[.int .i64 fba, .int .i64 fad, .int .i64 fsz, .int .i64 fmo, .int .i64 fof, .int .i64 fbe, .bool fst_, .bool fmi] 26)) := ((Below.refl _ _).alloc (Nat.le_refl _) _).alloc (by simp) _
  have hbx := (Blk.new w 24 #[.int .i64 ra, .int .i64 rk, .int .i64 rsy, .int .i64 rad]).alloc (.cells #[.int .i64 fba, .int .i64 fad, .int .i64 fsz, .int .i64 fmo, .int .i64 fof, .int .i64 fbe, .bool fst_, .bool fmi] 26)
  have hby : Blk ((w.alloc (.cells #[.int .i64 ra, .int .i64 rk, .int .i64 rsy, .int .i64 rad] 24)).alloc (.cells #[.int .i64 fba, .int .i64 fad, .int .i64 fsz, .int .i64 fmo, .int .i64 fof, .int .i64 fbe, .bool fst_, .bool fmi] 26)) (w.heap.size + 1) 26 #[.int .i64 fba, .int .i64 fad, .int .i64 fsz, .int .i64 fmo, .int .i64 fof, .int .i64 fbe, .bool fst_, .bool fmi] := Blk.at_ (by simp)
  obtain ⟨W, hW⟩ : ∃ W, (w.alloc (.cells #[.int .i64 ra, .int .i64 rk, .int .i64 rsy, .int .i64 rad] 24)).alloc (.cells #[.int .i64 fba, .int .i64 fad, .int .i64 fsz, .int .i64 fmo, .int .i64 fof, .int .i64 fbe, .bool fst_, .bool fmi] 26) = W := ⟨_, rfl⟩
  rw [hW] at hw0 hbx hby
  have hv := hv.stay hw0 hw0.size
  have A1 := Lib.hid awake_any
  have C1 : Hid (∀ {w1 : World}, Below W.heap.size W w1 → Calls Try.prog 18 #[v] w1 fun e w' => ∃ a, e = .returned (.pointer (some ⟨a, 0, none⟩)) ∧ Mine W.heap.size W w' a (playS [] (l.map (·.x)))) := Lib.hid (fun h => played_any h h.size v l hv)
  generalize playS [] (l.map (·.x)) = L at C1
  have HW := Lib.hid hW
  have H0 := Lib.hid hw0
  have HX := Lib.hid hbx
  have HY := Lib.hid hby
  have CW := Lib.hid (fun w1 => rword_any ra rk rsy rad fba fad fsz fmo fof fbe fst_ fmi w1)
  have PN : Hid (I64 (wordS_ ⟨ra, rk, rsy, rad⟩ ⟨fba, fad, fsz, fmo, fof, fbe, fst_, fmi⟩).1) := Lib.hid (relWord_i64 ⟨ra, rk, rsy, rad⟩ ⟨fba, fad, fsz, fmo, fof, fbe, fst_, fmi⟩ hfs hfm)
  have PO : Hid (∀ L, (rk == 2) = false → applyS L base [⟨ra, rk, rsy, rad⟩] [⟨fba, fad, fsz, fmo, fof, fbe, fst_, fmi⟩] = if (wordS_ ⟨ra, rk, rsy, rad⟩ ⟨fba, fad, fsz, fmo, fof, fbe, fst_, fmi⟩).2 ≠ 0 then (L, (wordS_ ⟨ra, rk, rsy, rad⟩ ⟨fba, fad, fsz, fmo, fof, fbe, fst_, fmi⟩).2) else setS L (wrap64 (base + ra)) (bytesS (wordS_ ⟨ra, rk, rsy, rad⟩ ⟨fba, fad, fsz, fmo, fof, fbe, fst_, fmi⟩).1) 0) := Lib.hid (fun L hk => by rw [apply_one]; unfold oneS; rw [if_neg (beq_eq_false_iff_ne.1 hk)])
  have hwd : wordS_ ⟨ra, rk, rsy, rad⟩ ⟨fba, fad, fsz, fmo, fof, fbe, fst_, fmi⟩ = relWord ra rk rad fba fad fsz fmo fof fbe fst_ fmi := rfl
  rw [hwd] at PN PO
  generalize relWord ra rk rad fba fad fsz fmo fof fbe fst_ fmi = o at CW PN PO
  obtain ⟨o1, o2⟩ := o
  simp only at CW PN PO
  clear hv hW hw0 hbx hby hwd hfs hfm
  go_enter Try.func9, Try.ntmps9
  go_wp2_with fail
  rw [HW.out]
  refine (A1.out _).mono ?_
  rintro e w1 ⟨rfl, h1⟩
  have H1 := Lib.hid h1; clear h1
  go_wp2_with fail
  refine (C1.out H1.out).mono ?_
  rintro e w2 ⟨a, rfl, m2⟩
  have M2 := Lib.hid (Has.of_mine m2); clear m2
  have HOK := Lib.hid M2.out.ok
  have r0 : w2.cell? ⟨w.heap.size, 0, none⟩ = some (.int .i64 ra) := (M2.out.bel.cell (p := ⟨w.heap.size, 0, none⟩) HX.out.lt).trans (HX.out.cell 0)
  have r1 : w2.cell? ⟨w.heap.size, 1, none⟩ = some (.int .i64 rk) := (M2.out.bel.cell (p := ⟨w.heap.size, 1, none⟩) HX.out.lt).trans (HX.out.cell 1)
  have r2 : w2.cell? ⟨w.heap.size, 2, none⟩ = some (.int .i64 rsy) := (M2.out.bel.cell (p := ⟨w.heap.size, 2, none⟩) HX.out.lt).trans (HX.out.cell 2)
  have r3 : w2.cell? ⟨w.heap.size, 3, none⟩ = some (.int .i64 rad) := (M2.out.bel.cell (p := ⟨w.heap.size, 3, none⟩) HX.out.lt).trans (HX.out.cell 3)
  have f0 : w2.cell? ⟨w.heap.size + 1, 0, none⟩ = some (.int .i64 fba) := (M2.out.bel.cell (p := ⟨w.heap.size + 1, 0, none⟩) HY.out.lt).trans (HY.out.cell 0)
  have f1 : w2.cell? ⟨w.heap.size + 1, 1, none⟩ = some (.int .i64 fad) := (M2.out.bel.cell (p := ⟨w.heap.size + 1, 1, none⟩) HY.out.lt).trans (HY.out.cell 1)
  have f2 : w2.cell? ⟨w.heap.size + 1, 2, none⟩ = some (.int .i64 fsz) := (M2.out.bel.cell (p := ⟨w.heap.size + 1, 2, none⟩) HY.out.lt).trans (HY.out.cell 2)
  have f3 : w2.cell? ⟨w.heap.size + 1, 3, none⟩ = some (.int .i64 fmo) := (M2.out.bel.cell (p := ⟨w.heap.size + 1, 3, none⟩) HY.out.lt).trans (HY.out.cell 3)
  have f4 : w2.cell? ⟨w.heap.size + 1, 4, none⟩ = some (.int .i64 fof) := (M2.out.bel.cell (p := ⟨w.heap.size + 1, 4, none⟩) HY.out.lt).trans (HY.out.cell 4)
  have f5 : w2.cell? ⟨w.heap.size + 1, 5, none⟩ = some (.int .i64 fbe) := (M2.out.bel.cell (p := ⟨w.heap.size + 1, 5, none⟩) HY.out.lt).trans (HY.out.cell 5)
  have f6 : w2.cell? ⟨w.heap.size + 1, 6, none⟩ = some (.bool fst_) := (M2.out.bel.cell (p := ⟨w.heap.size + 1, 6, none⟩) HY.out.lt).trans (HY.out.cell 6)
  have f7 : w2.cell? ⟨w.heap.size + 1, 7, none⟩ = some (.bool fmi) := (M2.out.bel.cell (p := ⟨w.heap.size + 1, 7, none⟩) HY.out.lt).trans (HY.out.cell 7)
  by_cases hk : rk = 2
  · subst hk
    have HB2 := Lib.hid (H0.out.trans (M2.out.bel.mono H0.out.size))
    clear M2
    go_wp2
    go_ret
    exact ⟨by simp, HB2.out⟩
  · have ek : (rk == 2) = false := beq_eq_false_iff_ne.2 hk
    have PO2 := Lib.hid (PO.out L ek)
    clear PO hk
    go_wp2_with fail
    refine (own_peek M2.out y hy1 1).mono ?_
    rintro e w3 ⟨v3, rfl, m3⟩
    have M3 := Lib.hid m3.swap; clear m3 M2
    clear r0 r1 r2 r3 f0 f1 f2 f3 f4 f5 f6 f7
    have r0 : w3.cell? ⟨w.heap.size, 0, none⟩ = some (.int .i64 ra) := (M3.out.bel.cell (p := ⟨w.heap.size, 0, none⟩) HX.out.lt).trans (HX.out.cell 0)
    have r1 : w3.cell? ⟨w.heap.size, 1, none⟩ = some (.int .i64 rk) := (M3.out.bel.cell (p := ⟨w.heap.size, 1, none⟩) HX.out.lt).trans (HX.out.cell 1)
    have r2 : w3.cell? ⟨w.heap.size, 2, none⟩ = some (.int .i64 rsy) := (M3.out.bel.cell (p := ⟨w.heap.size, 2, none⟩) HX.out.lt).trans (HX.out.cell 2)
    have r3 : w3.cell? ⟨w.heap.size, 3, none⟩ = some (.int .i64 rad) := (M3.out.bel.cell (p := ⟨w.heap.size, 3, none⟩) HX.out.lt).trans (HX.out.cell 3)
    have f0 : w3.cell? ⟨w.heap.size + 1, 0, none⟩ = some (.int .i64 fba) := (M3.out.bel.cell (p := ⟨w.heap.size + 1, 0, none⟩) HY.out.lt).trans (HY.out.cell 0)
    have f1 : w3.cell? ⟨w.heap.size + 1, 1, none⟩ = some (.int .i64 fad) := (M3.out.bel.cell (p := ⟨w.heap.size + 1, 1, none⟩) HY.out.lt).trans (HY.out.cell 1)
    have f2 : w3.cell? ⟨w.heap.size + 1, 2, none⟩ = some (.int .i64 fsz) := (M3.out.bel.cell (p := ⟨w.heap.size + 1, 2, none⟩) HY.out.lt).trans (HY.out.cell 2)
    have f3 : w3.cell? ⟨w.heap.size + 1, 3, none⟩ = some (.int .i64 fmo) := (M3.out.bel.cell (p := ⟨w.heap.size + 1, 3, none⟩) HY.out.lt).trans (HY.out.cell 3)
    have f4 : w3.cell? ⟨w.heap.size + 1, 4, none⟩ = some (.int .i64 fof) := (M3.out.bel.cell (p := ⟨w.heap.size + 1, 4, none⟩) HY.out.lt).trans (HY.out.cell 4)
    have f5 : w3.cell? ⟨w.heap.size + 1, 5, none⟩ = some (.int .i64 fbe) := (M3.out.bel.cell (p := ⟨w.heap.size + 1, 5, none⟩) HY.out.lt).trans (HY.out.cell 5)
    have f6 : w3.cell? ⟨w.heap.size + 1, 6, none⟩ = some (.bool fst_) := (M3.out.bel.cell (p := ⟨w.heap.size + 1, 6, none⟩) HY.out.lt).trans (HY.out.cell 6)
    have f7 : w3.cell? ⟨w.heap.size + 1, 7, none⟩ = some (.bool fmi) := (M3.out.bel.cell (p := ⟨w.heap.size + 1, 7, none⟩) HY.out.lt).trans (HY.out.cell 7)
    have g0 : ∀ (cs : Array Value), (w3.alloc (.cells cs 24)).cell? ⟨w.heap.size + 1, 0, none⟩ = some (.int .i64 fba) := fun cs => Lib.cell?_alloc_some _ f0
    have g1 : ∀ (cs : Array Value), (w3.alloc (.cells cs 24)).cell? ⟨w.heap.size + 1, 1, none⟩ = some (.int .i64 fad) := fun cs => Lib.cell?_alloc_some _ f1
    have g2 : ∀ (cs : Array Value), (w3.alloc (.cells cs 24)).cell? ⟨w.heap.size + 1, 2, none⟩ = some (.int .i64 fsz) := fun cs => Lib.cell?_alloc_some _ f2
    have g3 : ∀ (cs : Array Value), (w3.alloc (.cells cs 24)).cell? ⟨w.heap.size + 1, 3, none⟩ = some (.int .i64 fmo) := fun cs => Lib.cell?_alloc_some _ f3
    have g4 : ∀ (cs : Array Value), (w3.alloc (.cells cs 24)).cell? ⟨w.heap.size + 1, 4, none⟩ = some (.int .i64 fof) := fun cs => Lib.cell?_alloc_some _ f4
    have g5 : ∀ (cs : Array Value), (w3.alloc (.cells cs 24)).cell? ⟨w.heap.size + 1, 5, none⟩ = some (.int .i64 fbe) := fun cs => Lib.cell?_alloc_some _ f5
    have g6 : ∀ (cs : Array Value), (w3.alloc (.cells cs 24)).cell? ⟨w.heap.size + 1, 6, none⟩ = some (.bool fst_) := fun cs => Lib.cell?_alloc_some _ f6
    have g7 : ∀ (cs : Array Value), (w3.alloc (.cells cs 24)).cell? ⟨w.heap.size + 1, 7, none⟩ = some (.bool fmi) := fun cs => Lib.cell?_alloc_some _ f7
    go_wp2_with fail
    clear g0 g1 g2 g3 g4 g5 g6 g7
    clear r0 r1 r2 r3 f0 f1 f2 f3 f4 f5 f6 f7
    have m4 := (M3.out.row 4 relC (fun _ => rfl) [⟨ra, rk, rsy, rad⟩] (by show 1 ≤ maxLen; decide) #[.int .i64 ra, .int .i64 rk, .int .i64 rsy, .int .i64 rad] 24 rfl).row 8 fctC (fun _ => rfl) [⟨fba, fad, fsz, fmo, fof, fbe, fst_, fmi⟩] (by show 1 ≤ maxLen; decide) #[.int .i64 fba, .int .i64 fad, .int .i64 fsz, .int .i64 fmo, .int .i64 fof, .int .i64 fbe, .bool fst_, .bool fmi] 26 rfl
    simp only [World.size_alloc] at m4
    have M4 := Lib.hid m4.r3; clear m4 M3
    have C5 := Lib.hid (own_apply M4.out base _ _ [⟨ra, rk, rsy, rad⟩] [⟨fba, fad, fsz, fmo, fof, fbe, fst_, fmi⟩] (by intro f hf; simp only [List.mem_cons, List.not_mem_nil, or_false] at hf; rcases hf with rfl; exact hfa) (Away.right Away.own) Away.own)
    rw [PO2.out] at C5
    clear PO2 ek
    by_cases ho : o2 = 0
    · subst ho
      rw [if_neg (by simp)] at C5
      have PL := Lib.hid (one_law HOK.out (x := wrap64 (base + ra)) (n := o1) (y := y) PN.out)
      have HREF := Lib.hid (fun (h : (setS L (wrap64 (base + ra)) (bytesS o1) 0).2 ≠ 0) => set_refused h)
      generalize setS L (wrap64 (base + ra)) (bytesS o1) 0 = r at C5 PL HREF
      obtain ⟨L2, er⟩ := r
      simp only at C5 PL HREF
      refine (C5.out).mono ?_
      rintro e w5 ⟨rfl, m5⟩
      have M5 := Lib.hid m5; clear m5 M4 C5
      go_wp2_with fail
      refine (own_peek M5.out y hy1 1).mono ?_
      rintro e w6 ⟨v6, rfl, m6⟩
      rw [PL.out.1]
      have M6 := Lib.hid m6.swap; clear m6 M5
      have r0 : w6.cell? ⟨w.heap.size, 0, none⟩ = some (.int .i64 ra) := (M6.out.bel.cell (p := ⟨w.heap.size, 0, none⟩) HX.out.lt).trans (HX.out.cell 0)
      have r1 : w6.cell? ⟨w.heap.size, 1, none⟩ = some (.int .i64 rk) := (M6.out.bel.cell (p := ⟨w.heap.size, 1, none⟩) HX.out.lt).trans (HX.out.cell 1)
      have r2 : w6.cell? ⟨w.heap.size, 2, none⟩ = some (.int .i64 rsy) := (M6.out.bel.cell (p := ⟨w.heap.size, 2, none⟩) HX.out.lt).trans (HX.out.cell 2)
      have r3 : w6.cell? ⟨w.heap.size, 3, none⟩ = some (.int .i64 rad) := (M6.out.bel.cell (p := ⟨w.heap.size, 3, none⟩) HX.out.lt).trans (HX.out.cell 3)
      have f0 : w6.cell? ⟨w.heap.size + 1, 0, none⟩ = some (.int .i64 fba) := (M6.out.bel.cell (p := ⟨w.heap.size + 1, 0, none⟩) HY.out.lt).trans (HY.out.cell 0)
      have f1 : w6.cell? ⟨w.heap.size + 1, 1, none⟩ = some (.int .i64 fad) := (M6.out.bel.cell (p := ⟨w.heap.size + 1, 1, none⟩) HY.out.lt).trans (HY.out.cell 1)
      have f2 : w6.cell? ⟨w.heap.size + 1, 2, none⟩ = some (.int .i64 fsz) := (M6.out.bel.cell (p := ⟨w.heap.size + 1, 2, none⟩) HY.out.lt).trans (HY.out.cell 2)
      have f3 : w6.cell? ⟨w.heap.size + 1, 3, none⟩ = some (.int .i64 fmo) := (M6.out.bel.cell (p := ⟨w.heap.size + 1, 3, none⟩) HY.out.lt).trans (HY.out.cell 3)
      have f4 : w6.cell? ⟨w.heap.size + 1, 4, none⟩ = some (.int .i64 fof) := (M6.out.bel.cell (p := ⟨w.heap.size + 1, 4, none⟩) HY.out.lt).trans (HY.out.cell 4)
      have f5 : w6.cell? ⟨w.heap.size + 1, 5, none⟩ = some (.int .i64 fbe) := (M6.out.bel.cell (p := ⟨w.heap.size + 1, 5, none⟩) HY.out.lt).trans (HY.out.cell 5)
      have f6 : w6.cell? ⟨w.heap.size + 1, 6, none⟩ = some (.bool fst_) := (M6.out.bel.cell (p := ⟨w.heap.size + 1, 6, none⟩) HY.out.lt).trans (HY.out.cell 6)
      have f7 : w6.cell? ⟨w.heap.size + 1, 7, none⟩ = some (.bool fmi) := (M6.out.bel.cell (p := ⟨w.heap.size + 1, 7, none⟩) HY.out.lt).trans (HY.out.cell 7)
      go_wp2_with fail
      refine (CW.out _).mono ?_
      rintro e w7 ⟨rfl, h7⟩
      have M7 := Lib.hid (M6.out.stay h7); clear h7 M6
      clear r0 r1 r2 r3 f0 f1 f2 f3 f4 f5 f6 f7
      have r0 : w7.cell? ⟨w.heap.size, 0, none⟩ = some (.int .i64 ra) := (M7.out.bel.cell (p := ⟨w.heap.size, 0, none⟩) HX.out.lt).trans (HX.out.cell 0)
      have r1 : w7.cell? ⟨w.heap.size, 1, none⟩ = some (.int .i64 rk) := (M7.out.bel.cell (p := ⟨w.heap.size, 1, none⟩) HX.out.lt).trans (HX.out.cell 1)
      have r2 : w7.cell? ⟨w.heap.size, 2, none⟩ = some (.int .i64 rsy) := (M7.out.bel.cell (p := ⟨w.heap.size, 2, none⟩) HX.out.lt).trans (HX.out.cell 2)
      have r3 : w7.cell? ⟨w.heap.size, 3, none⟩ = some (.int .i64 rad) := (M7.out.bel.cell (p := ⟨w.heap.size, 3, none⟩) HX.out.lt).trans (HX.out.cell 3)
      have f0 : w7.cell? ⟨w.heap.size + 1, 0, none⟩ = some (.int .i64 fba) := (M7.out.bel.cell (p := ⟨w.heap.size + 1, 0, none⟩) HY.out.lt).trans (HY.out.cell 0)
      have f1 : w7.cell? ⟨w.heap.size + 1, 1, none⟩ = some (.int .i64 fad) := (M7.out.bel.cell (p := ⟨w.heap.size + 1, 1, none⟩) HY.out.lt).trans (HY.out.cell 1)
      have f2 : w7.cell? ⟨w.heap.size + 1, 2, none⟩ = some (.int .i64 fsz) := (M7.out.bel.cell (p := ⟨w.heap.size + 1, 2, none⟩) HY.out.lt).trans (HY.out.cell 2)
      have f3 : w7.cell? ⟨w.heap.size + 1, 3, none⟩ = some (.int .i64 fmo) := (M7.out.bel.cell (p := ⟨w.heap.size + 1, 3, none⟩) HY.out.lt).trans (HY.out.cell 3)
      have f4 : w7.cell? ⟨w.heap.size + 1, 4, none⟩ = some (.int .i64 fof) := (M7.out.bel.cell (p := ⟨w.heap.size + 1, 4, none⟩) HY.out.lt).trans (HY.out.cell 4)
      have f5 : w7.cell? ⟨w.heap.size + 1, 5, none⟩ = some (.int .i64 fbe) := (M7.out.bel.cell (p := ⟨w.heap.size + 1, 5, none⟩) HY.out.lt).trans (HY.out.cell 5)
      have f6 : w7.cell? ⟨w.heap.size + 1, 6, none⟩ = some (.bool fst_) := (M7.out.bel.cell (p := ⟨w.heap.size + 1, 6, none⟩) HY.out.lt).trans (HY.out.cell 6)
      have f7 : w7.cell? ⟨w.heap.size + 1, 7, none⟩ = some (.bool fmi) := (M7.out.bel.cell (p := ⟨w.heap.size + 1, 7, none⟩) HY.out.lt).trans (HY.out.cell 7)
      by_cases hz : er = 0
      · obtain ⟨p1, p2, p3⟩ := PL.out.2.1 hz
        have C8 := Lib.hid (own_peekWord M7.out (wrap64 (base + ra)) (wrap64_hi _))
        rw [p1] at C8
        subst hz
        clear p1
        go_wp2_with fail
        refine (C8.out).mono ?_
        rintro e w8 ⟨rfl, m8⟩
        have M8 := Lib.hid m8; clear m8 M7 C8
        clear r0 r1 r2 r3 f0 f1 f2 f3 f4 f5 f6 f7
        have r0 : w8.cell? ⟨w.heap.size, 0, none⟩ = some (.int .i64 ra) := (M8.out.bel.cell (p := ⟨w.heap.size, 0, none⟩) HX.out.lt).trans (HX.out.cell 0)
        have r1 : w8.cell? ⟨w.heap.size, 1, none⟩ = some (.int .i64 rk) := (M8.out.bel.cell (p := ⟨w.heap.size, 1, none⟩) HX.out.lt).trans (HX.out.cell 1)
        have r2 : w8.cell? ⟨w.heap.size, 2, none⟩ = some (.int .i64 rsy) := (M8.out.bel.cell (p := ⟨w.heap.size, 2, none⟩) HX.out.lt).trans (HX.out.cell 2)
        have r3 : w8.cell? ⟨w.heap.size, 3, none⟩ = some (.int .i64 rad) := (M8.out.bel.cell (p := ⟨w.heap.size, 3, none⟩) HX.out.lt).trans (HX.out.cell 3)
        have f0 : w8.cell? ⟨w.heap.size + 1, 0, none⟩ = some (.int .i64 fba) := (M8.out.bel.cell (p := ⟨w.heap.size + 1, 0, none⟩) HY.out.lt).trans (HY.out.cell 0)
        have f1 : w8.cell? ⟨w.heap.size + 1, 1, none⟩ = some (.int .i64 fad) := (M8.out.bel.cell (p := ⟨w.heap.size + 1, 1, none⟩) HY.out.lt).trans (HY.out.cell 1)
        have f2 : w8.cell? ⟨w.heap.size + 1, 2, none⟩ = some (.int .i64 fsz) := (M8.out.bel.cell (p := ⟨w.heap.size + 1, 2, none⟩) HY.out.lt).trans (HY.out.cell 2)
        have f3 : w8.cell? ⟨w.heap.size + 1, 3, none⟩ = some (.int .i64 fmo) := (M8.out.bel.cell (p := ⟨w.heap.size + 1, 3, none⟩) HY.out.lt).trans (HY.out.cell 3)
        have f4 : w8.cell? ⟨w.heap.size + 1, 4, none⟩ = some (.int .i64 fof) := (M8.out.bel.cell (p := ⟨w.heap.size + 1, 4, none⟩) HY.out.lt).trans (HY.out.cell 4)
        have f5 : w8.cell? ⟨w.heap.size + 1, 5, none⟩ = some (.int .i64 fbe) := (M8.out.bel.cell (p := ⟨w.heap.size + 1, 5, none⟩) HY.out.lt).trans (HY.out.cell 5)
        have f6 : w8.cell? ⟨w.heap.size + 1, 6, none⟩ = some (.bool fst_) := (M8.out.bel.cell (p := ⟨w.heap.size + 1, 6, none⟩) HY.out.lt).trans (HY.out.cell 6)
        have f7 : w8.cell? ⟨w.heap.size + 1, 7, none⟩ = some (.bool fmi) := (M8.out.bel.cell (p := ⟨w.heap.size + 1, 7, none⟩) HY.out.lt).trans (HY.out.cell 7)
        have k6 := M8.out.right.bt.conv
        have k3 := M8.out.right.right.right.right.bt.conv
        have HB8 := Lib.hid (H0.out.trans (M8.out.bel.mono H0.out.size))
        by_cases he : (getS L y 1 0).2 = 0
        · obtain ⟨q1, q2⟩ := PL.out.2.2.1 he
          rw [he]
          rcases apart_test (wrap64 (base + ra)) y with ⟨t1, t2⟩ | t1 | ⟨t1, t2⟩
          · clear PL M8 he
            go_wp2
            go_ret
            exact ⟨by simp, HB8.out⟩
          · rw [PL.out.2.2.2 (by trivial) he (.inl t1)] at k6
            have t3 : ¬ wrap64 (base + ra) ≤ y := by omega
            clear PL M8 he
            go_wp2
            go_ret
            exact ⟨by simp, HB8.out⟩
          · rw [PL.out.2.2.2 (by trivial) he (.inr (by omega))] at k6
            have t3 : ¬ y - wrap64 (base + ra) < 8 := by omega
            clear PL M8 he
            go_wp2
            go_ret
            exact ⟨by simp, HB8.out⟩
        · have ee : ((getS L y 1 0).2 == 0) = false := beq_eq_false_iff_ne.2 he
          generalize (getS L y 1 0).2 = E at *
          have en : ¬ E = 0 := he
          clear PL M8 he
          go_wp2
          go_ret
          exact ⟨by simp, HB8.out⟩
      · have ez : (er == 0) = false := beq_eq_false_iff_ne.2 hz
        have en : ¬ er = 0 := hz
        have PR := Lib.hid (HREF.out hz)
        obtain rfl : L2 = L := PR.out
        have k6 := M7.out.right.bt.conv
        have k3 := M7.out.right.right.right.right.bt.conv
        have HB7 := Lib.hid (H0.out.trans (M7.out.bel.mono H0.out.size))
        generalize (getS L2 y 1 0).2 = E at *
        clear PL M7 hz PR HREF
        go_wp2
        all_goals
          go_ret
          exact ⟨by simp, HB7.out⟩
    · rw [if_pos ho] at C5
      have eo : (o2 == 0) = false := beq_eq_false_iff_ne.2 ho
      have en : ¬ o2 = 0 := ho
      clear ho
      refine (C5.out).mono ?_
      rintro e w5 ⟨rfl, m5⟩
      have M5 := Lib.hid m5; clear m5 M4 C5
      go_wp2_with fail
      refine (own_peek M5.out y hy1 1).mono ?_
      rintro e w6 ⟨v6, rfl, m6⟩
      have M6 := Lib.hid m6.swap; clear m6 M5
      have r0 : w6.cell? ⟨w.heap.size, 0, none⟩ = some (.int .i64 ra) := (M6.out.bel.cell (p := ⟨w.heap.size, 0, none⟩) HX.out.lt).trans (HX.out.cell 0)
      have r1 : w6.cell? ⟨w.heap.size, 1, none⟩ = some (.int .i64 rk) := (M6.out.bel.cell (p := ⟨w.heap.size, 1, none⟩) HX.out.lt).trans (HX.out.cell 1)
      have r2 : w6.cell? ⟨w.heap.size, 2, none⟩ = some (.int .i64 rsy) := (M6.out.bel.cell (p := ⟨w.heap.size, 2, none⟩) HX.out.lt).trans (HX.out.cell 2)
      have r3 : w6.cell? ⟨w.heap.size, 3, none⟩ = some (.int .i64 rad) := (M6.out.bel.cell (p := ⟨w.heap.size, 3, none⟩) HX.out.lt).trans (HX.out.cell 3)
      have f0 : w6.cell? ⟨w.heap.size + 1, 0, none⟩ = some (.int .i64 fba) := (M6.out.bel.cell (p := ⟨w.heap.size + 1, 0, none⟩) HY.out.lt).trans (HY.out.cell 0)
      have f1 : w6.cell? ⟨w.heap.size + 1, 1, none⟩ = some (.int .i64 fad) := (M6.out.bel.cell (p := ⟨w.heap.size + 1, 1, none⟩) HY.out.lt).trans (HY.out.cell 1)
      have f2 : w6.cell? ⟨w.heap.size + 1, 2, none⟩ = some (.int .i64 fsz) := (M6.out.bel.cell (p := ⟨w.heap.size + 1, 2, none⟩) HY.out.lt).trans (HY.out.cell 2)
      have f3 : w6.cell? ⟨w.heap.size + 1, 3, none⟩ = some (.int .i64 fmo) := (M6.out.bel.cell (p := ⟨w.heap.size + 1, 3, none⟩) HY.out.lt).trans (HY.out.cell 3)
      have f4 : w6.cell? ⟨w.heap.size + 1, 4, none⟩ = some (.int .i64 fof) := (M6.out.bel.cell (p := ⟨w.heap.size + 1, 4, none⟩) HY.out.lt).trans (HY.out.cell 4)
      have f5 : w6.cell? ⟨w.heap.size + 1, 5, none⟩ = some (.int .i64 fbe) := (M6.out.bel.cell (p := ⟨w.heap.size + 1, 5, none⟩) HY.out.lt).trans (HY.out.cell 5)
      have f6 : w6.cell? ⟨w.heap.size + 1, 6, none⟩ = some (.bool fst_) := (M6.out.bel.cell (p := ⟨w.heap.size + 1, 6, none⟩) HY.out.lt).trans (HY.out.cell 6)
      have f7 : w6.cell? ⟨w.heap.size + 1, 7, none⟩ = some (.bool fmi) := (M6.out.bel.cell (p := ⟨w.heap.size + 1, 7, none⟩) HY.out.lt).trans (HY.out.cell 7)
      go_wp2_with fail
      refine (CW.out _).mono ?_
      rintro e w7 ⟨rfl, h7⟩
      have M7 := Lib.hid (M6.out.stay h7); clear h7 M6
      clear r0 r1 r2 r3 f0 f1 f2 f3 f4 f5 f6 f7
      have r0 : w7.cell? ⟨w.heap.size, 0, none⟩ = some (.int .i64 ra) := (M7.out.bel.cell (p := ⟨w.heap.size, 0, none⟩) HX.out.lt).trans (HX.out.cell 0)
      have r1 : w7.cell? ⟨w.heap.size, 1, none⟩ = some (.int .i64 rk) := (M7.out.bel.cell (p := ⟨w.heap.size, 1, none⟩) HX.out.lt).trans (HX.out.cell 1)
      have r2 : w7.cell? ⟨w.heap.size, 2, none⟩ = some (.int .i64 rsy) := (M7.out.bel.cell (p := ⟨w.heap.size, 2, none⟩) HX.out.lt).trans (HX.out.cell 2)
      have r3 : w7.cell? ⟨w.heap.size, 3, none⟩ = some (.int .i64 rad) := (M7.out.bel.cell (p := ⟨w.heap.size, 3, none⟩) HX.out.lt).trans (HX.out.cell 3)
      have f0 : w7.cell? ⟨w.heap.size + 1, 0, none⟩ = some (.int .i64 fba) := (M7.out.bel.cell (p := ⟨w.heap.size + 1, 0, none⟩) HY.out.lt).trans (HY.out.cell 0)
      have f1 : w7.cell? ⟨w.heap.size + 1, 1, none⟩ = some (.int .i64 fad) := (M7.out.bel.cell (p := ⟨w.heap.size + 1, 1, none⟩) HY.out.lt).trans (HY.out.cell 1)
      have f2 : w7.cell? ⟨w.heap.size + 1, 2, none⟩ = some (.int .i64 fsz) := (M7.out.bel.cell (p := ⟨w.heap.size + 1, 2, none⟩) HY.out.lt).trans (HY.out.cell 2)
      have f3 : w7.cell? ⟨w.heap.size + 1, 3, none⟩ = some (.int .i64 fmo) := (M7.out.bel.cell (p := ⟨w.heap.size + 1, 3, none⟩) HY.out.lt).trans (HY.out.cell 3)
      have f4 : w7.cell? ⟨w.heap.size + 1, 4, none⟩ = some (.int .i64 fof) := (M7.out.bel.cell (p := ⟨w.heap.size + 1, 4, none⟩) HY.out.lt).trans (HY.out.cell 4)
      have f5 : w7.cell? ⟨w.heap.size + 1, 5, none⟩ = some (.int .i64 fbe) := (M7.out.bel.cell (p := ⟨w.heap.size + 1, 5, none⟩) HY.out.lt).trans (HY.out.cell 5)
      have f6 : w7.cell? ⟨w.heap.size + 1, 6, none⟩ = some (.bool fst_) := (M7.out.bel.cell (p := ⟨w.heap.size + 1, 6, none⟩) HY.out.lt).trans (HY.out.cell 6)
      have f7 : w7.cell? ⟨w.heap.size + 1, 7, none⟩ = some (.bool fmi) := (M7.out.bel.cell (p := ⟨w.heap.size + 1, 7, none⟩) HY.out.lt).trans (HY.out.cell 7)
      have k6 := M7.out.right.bt.conv
      have k3 := M7.out.right.right.right.right.bt.conv
      have HB7 := Lib.hid (H0.out.trans (M7.out.bel.mono H0.out.size))
      generalize (getS L y 1 0).2 = E at *
      clear M7
      go_wp2
      all_goals
        go_ret
        exact ⟨by simp, HB7.out⟩
end Go.Proofs.Ytpononkgeeahdaa
