/-
  Layer 7: what Seen and Match compute, of the program and of the document.
  Conditions: none. (My own text.)
-/
import Derived.Test.YthajdklmklaelaaSyp
namespace Go.Proofs.Ythajdklmklaelaa
open Go.RowKit
set_option linter.unusedVariables false
set_option linter.unusedSimpArgs false

def seenS (d : Bool) (i : Int) : Bool := d && !(i == 2)

/-- Does a definition (dn, dv, do_, seen) fit a reference (rn, rv)? -/
def matchS (rn rv dn dv : ByteArray) (old seen versioned : Bool) : Bool :=
  seen && (rn.toList == dn.toList) && (if rv.toList.isEmpty = true then !old else (rv.toList == dv.toList) || !versioned)

theorem below_box {w w1 : World} {o : Obj} (h : Below (w.alloc o).heap.size (w.alloc o) w1) : Below w.heap.size w w1 := ((Below.refl _ _).alloc (Nat.le_refl _) _).trans (h.mono (by simp))

theorem seen_any (dn dv : ByteArray) (do_ dw dd : Bool) (dk di da ds : Int) (w : World) :
    Calls Try.prog 16 #[.agg #[.string dn, .string dv, .bool do_, .int .i64 dk, .bool dw, .int .i64 di, .bool dd, .int .i64 da, .int .i64 ds]] w fun e w' => e = .returned (.bool (seenS dd di)) ∧ Below w.heap.size w w' := by
  cases dd
  · have hs : seenS false di = false := rfl
    have HS := Lib.hid hs; clear hs
    go_enter Try.func16, Try.ntmps16
    go_wp2
    go_ret
    exact ⟨by rw [HS.out]; rfl, (Below.refl _ _).alloc (Nat.le_refl _) _⟩
  · have hs : seenS true di = (di != 2) := rfl
    have HS := Lib.hid hs; clear hs
    go_enter Try.func16, Try.ntmps16
    go_wp2
    go_ret
    exact ⟨by rw [HS.out]; rfl, (Below.refl _ _).alloc (Nat.le_refl _) _⟩

theorem refSeen_any (dn dv : ByteArray) (do_ dw dd : Bool) (dk di da ds : Int) (w : World) :
    Calls Try.prog 24 #[.agg #[.string dn, .string dv, .bool do_, .int .i64 dk, .bool dw, .int .i64 di, .bool dd, .int .i64 da, .int .i64 ds]] w fun e w' => e = .returned (.bool (seenS dd di)) ∧ Below w.heap.size w w' := by
  cases dd
  · have hs : seenS false di = false := rfl
    have HS := Lib.hid hs; clear hs
    go_enter Try.func24, Try.ntmps24
    go_wp2
    go_ret
    exact ⟨by rw [HS.out]; rfl, (Below.refl _ _).alloc (Nat.le_refl _) _⟩
  · have hs : seenS true di = (di != 2) := rfl
    have HS := Lib.hid hs; clear hs
    go_enter Try.func24, Try.ntmps24
    go_wp2
    go_ret
    exact ⟨by rw [HS.out]; rfl, (Below.refl _ _).alloc (Nat.le_refl _) _⟩

set_option maxHeartbeats 1000000 in
theorem match_any (rn rv : ByteArray) (ro rw rd : Bool) (rk ri ra rs : Int) (dn dv : ByteArray) (do_ dw dd : Bool) (dk di da ds : Int) (ver : Bool) (w : World) :
    Calls Try.prog 15 #[.agg #[.string rn, .string rv, .bool ro, .int .i64 rk, .bool rw, .int .i64 ri, .bool rd, .int .i64 ra, .int .i64 rs], .agg #[.string dn, .string dv, .bool do_, .int .i64 dk, .bool dw, .int .i64 di, .bool dd, .int .i64 da, .int .i64 ds], .bool ver] w fun e w' => e = .returned (.bool (matchS rn rv dn dv do_ (seenS dd di) ver)) ∧ Below w.heap.size w w' := by
  have C := Lib.hid (fun w : World => seen_any dn dv do_ dw dd dk di da ds w)
  cases hS : seenS dd di
  · rw [hS] at C; clear hS
    have hm : matchS rn rv dn dv do_ false ver = false := rfl
    have HM := Lib.hid hm; clear hm
    go_enter Try.func15, Try.ntmps15
    go_wp2_with fail
    refine (C.out _).mono ?_
    rintro e w1 ⟨rfl, hb1⟩
    obtain ⟨hc, hf⟩ := bcell hb1
    have hbel : Below w.heap.size w w1 := (((Below.refl _ _).alloc (Nat.le_refl _) _).alloc (by simp) _).trans (hb1.mono (by simp; omega))
    clear hb1 hf
    go_wp2
    go_ret
    exact ⟨by rw [HM.out]; rfl, hbel⟩
  · rw [hS] at C; clear hS
    cases hN : (rn.toList == dn.toList)
    · have hm : matchS rn rv dn dv do_ true ver = false := by unfold matchS; rw [hN]; rfl
      have HM := Lib.hid hm; clear hm
      go_enter Try.func15, Try.ntmps15
      go_wp2_with fail
      refine (C.out _).mono ?_
      rintro e w1 ⟨rfl, hb1⟩
      obtain ⟨hc, hf⟩ := bcell hb1
      have hbel : Below w.heap.size w w1 := (((Below.refl _ _).alloc (Nat.le_refl _) _).alloc (by simp) _).trans (hb1.mono (by simp; omega))
      clear hb1 hf
      go_wp2
      go_ret
      exact ⟨by rw [HM.out]; rfl, hbel⟩
    · cases hE : rv.toList.isEmpty
      · cases hV : (rv.toList == dv.toList)
        · have hm : matchS rn rv dn dv do_ true ver = !ver := by unfold matchS; rw [hN, hE, hV]; rfl
          have HM := Lib.hid hm; clear hm
          cases ver
          all_goals
            go_enter Try.func15, Try.ntmps15
            go_wp2_with fail
            refine (C.out _).mono ?_
            rintro e w1 ⟨rfl, hb1⟩
            obtain ⟨hc, hf⟩ := bcell hb1
            have hbel : Below w.heap.size w w1 := (((Below.refl _ _).alloc (Nat.le_refl _) _).alloc (by simp) _).trans (hb1.mono (by simp; omega))
            clear hb1 hf
            go_wp2
            go_ret
            exact ⟨by rw [HM.out]; rfl, hbel⟩
        · have hm : matchS rn rv dn dv do_ true ver = true := by unfold matchS; rw [hN, hE, hV]; rfl
          have HM := Lib.hid hm; clear hm
          cases ver
          all_goals
            go_enter Try.func15, Try.ntmps15
            go_wp2_with fail
            refine (C.out _).mono ?_
            rintro e w1 ⟨rfl, hb1⟩
            obtain ⟨hc, hf⟩ := bcell hb1
            have hbel : Below w.heap.size w w1 := (((Below.refl _ _).alloc (Nat.le_refl _) _).alloc (by simp) _).trans (hb1.mono (by simp; omega))
            clear hb1 hf
            go_wp2
            go_ret
            exact ⟨by rw [HM.out]; rfl, hbel⟩
      · have hm : matchS rn rv dn dv do_ true ver = !do_ := by unfold matchS; rw [hN, hE]; rfl
        have HM := Lib.hid hm; clear hm
        go_enter Try.func15, Try.ntmps15
        go_wp2_with fail
        refine (C.out _).mono ?_
        rintro e w1 ⟨rfl, hb1⟩
        obtain ⟨hc, hf⟩ := bcell hb1
        have hbel : Below w.heap.size w w1 := (((Below.refl _ _).alloc (Nat.le_refl _) _).alloc (by simp) _).trans (hb1.mono (by simp; omega))
        clear hb1 hf
        go_wp2
        go_ret
        exact ⟨by rw [HM.out]; rfl, hbel⟩

set_option maxHeartbeats 1000000 in
theorem refMatch_any (rn rv : ByteArray) (ro rw rd : Bool) (rk ri ra rs : Int) (dn dv : ByteArray) (do_ dw dd : Bool) (dk di da ds : Int) (ver : Bool) (w : World) :
    Calls Try.prog 17 #[.agg #[.string rn, .string rv, .bool ro, .int .i64 rk, .bool rw, .int .i64 ri, .bool rd, .int .i64 ra, .int .i64 rs], .agg #[.string dn, .string dv, .bool do_, .int .i64 dk, .bool dw, .int .i64 di, .bool dd, .int .i64 da, .int .i64 ds], .bool ver] w fun e w' => e = .returned (.bool (matchS rn rv dn dv do_ (seenS dd di) ver)) ∧ Below w.heap.size w w' := by
  have C := Lib.hid (fun w : World => refSeen_any dn dv do_ dw dd dk di da ds w)
  cases hS : seenS dd di
  · rw [hS] at C; clear hS
    have hm : matchS rn rv dn dv do_ false ver = false := rfl
    have HM := Lib.hid hm; clear hm
    go_enter Try.func17, Try.ntmps17
    go_wp2_with fail
    refine (C.out _).mono ?_
    rintro e w1 ⟨rfl, hb1⟩
    obtain ⟨hc, hf⟩ := bcell hb1
    have hbel : Below w.heap.size w w1 := (((Below.refl _ _).alloc (Nat.le_refl _) _).alloc (by simp) _).trans (hb1.mono (by simp; omega))
    clear hb1 hf
    go_wp2
    go_ret
    exact ⟨by rw [HM.out]; rfl, hbel⟩
  · rw [hS] at C; clear hS
    cases hN : (rn.toList == dn.toList)
    · have hm : matchS rn rv dn dv do_ true ver = false := by unfold matchS; rw [hN]; rfl
      have HM := Lib.hid hm; clear hm
      go_enter Try.func17, Try.ntmps17
      go_wp2_with fail
      refine (C.out _).mono ?_
      rintro e w1 ⟨rfl, hb1⟩
      obtain ⟨hc, hf⟩ := bcell hb1
      have hbel : Below w.heap.size w w1 := (((Below.refl _ _).alloc (Nat.le_refl _) _).alloc (by simp) _).trans (hb1.mono (by simp; omega))
      clear hb1 hf
      go_wp2
      go_ret
      exact ⟨by rw [HM.out]; rfl, hbel⟩
    · cases hE : rv.toList.isEmpty
      · cases hV : (rv.toList == dv.toList)
        · have hm : matchS rn rv dn dv do_ true ver = !ver := by unfold matchS; rw [hN, hE, hV]; rfl
          have HM := Lib.hid hm; clear hm
          cases ver
          all_goals
            go_enter Try.func17, Try.ntmps17
            go_wp2_with fail
            refine (C.out _).mono ?_
            rintro e w1 ⟨rfl, hb1⟩
            obtain ⟨hc, hf⟩ := bcell hb1
            have hbel : Below w.heap.size w w1 := (((Below.refl _ _).alloc (Nat.le_refl _) _).alloc (by simp) _).trans (hb1.mono (by simp; omega))
            clear hb1 hf
            go_wp2
            go_ret
            exact ⟨by rw [HM.out]; rfl, hbel⟩
        · have hm : matchS rn rv dn dv do_ true ver = true := by unfold matchS; rw [hN, hE, hV]; rfl
          have HM := Lib.hid hm; clear hm
          cases ver
          all_goals
            go_enter Try.func17, Try.ntmps17
            go_wp2_with fail
            refine (C.out _).mono ?_
            rintro e w1 ⟨rfl, hb1⟩
            obtain ⟨hc, hf⟩ := bcell hb1
            have hbel : Below w.heap.size w w1 := (((Below.refl _ _).alloc (Nat.le_refl _) _).alloc (by simp) _).trans (hb1.mono (by simp; omega))
            clear hb1 hf
            go_wp2
            go_ret
            exact ⟨by rw [HM.out]; rfl, hbel⟩
      · have hm : matchS rn rv dn dv do_ true ver = !do_ := by unfold matchS; rw [hN, hE]; rfl
        have HM := Lib.hid hm; clear hm
        go_enter Try.func17, Try.ntmps17
        go_wp2_with fail
        refine (C.out _).mono ?_
        rintro e w1 ⟨rfl, hb1⟩
        obtain ⟨hc, hf⟩ := bcell hb1
        have hbel : Below w.heap.size w w1 := (((Below.refl _ _).alloc (Nat.le_refl _) _).alloc (by simp) _).trans (hb1.mono (by simp; omega))
        clear hb1 hf
        go_wp2
        go_ret
        exact ⟨by rw [HM.out]; rfl, hbel⟩

end Go.Proofs.Ythajdklmklaelaa
