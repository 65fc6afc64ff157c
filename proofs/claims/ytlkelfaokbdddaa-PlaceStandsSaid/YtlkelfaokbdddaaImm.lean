/-
  Layer 9: the document's May: where it says that an image may be, its segments are as they should.
  Conditions: none. (My own text.)
-/
import Derived.Test.YtlkelfaokbdddaaImh
import Derived.Test.YtlkelfaokbdddaaImb
import Derived.Test.YtlkelfaokbdddaaImy
import Derived.Test.YtlkelfaokbdddaaImu
import Derived.Test.YtlkelfaokbdddaaImo
import Derived.Test.YtlkelfaokbdddaaIms
import Derived.Test.YtlkelfaokbdddaaImn
namespace Go.Proofs.Ytlkelfaokbdddaa
open Go.RowKit Spm
set_option linter.unusedVariables false
set_option linter.unusedSimpArgs false

attribute [local irreducible] wpList
def MayE9 (l : List Sg) (w : World) (e : Ending) (w' : World) : Prop := (∃ n : Int, e = .returned (.int .i64 n) ∧ (n = 0 → SegsOk l)) ∧ Below w.heap.size w w'
set_option maxRecDepth 100000 in
set_option maxHeartbeats 4000000 in
theorem may09_any (d : ImgD) (P : Nat → Prop) (w : World) (h : ImgOk w P d) : Calls Try.prog 10 #[.agg (imgD d)] w (MayE9 d.sl w) := by
  have hxn := h.xn
  unfold maxLen at hxn
  have HOK := Lib.hid (fun (wr : World) (hb : Below w.heap.size w wr) => h.stay hb)
  clear h
  rw [show imgD d = #[.string d.nm, .int .i64 d.fl, .slice d.sA d.sl.length d.sC, .slice d.nA d.nd.length d.nC, .slice d.rA d.rp.length d.rC, .slice d.yA d.sy.length d.yC, .slice d.bA d.bk.length d.bC, .slice d.wA d.wd.length d.wC, .int .i64 d.sh, .slice d.lA d.rl.length d.lC, .slice d.tA d.st.length d.tC, .slice d.iA d.ini.length d.iC, .slice d.fA d.fin.length d.fC, .slice d.xA d.xn d.xC, .int .i64 d.tz] from rfl]
  have M0 := Lib.hid ((Has.start (Below.refl w.heap.size w) (Nat.le_refl _)).newcel 39 #[.string d.nm, .int .i64 d.fl, .slice d.sA d.sl.length d.sC, .slice d.nA d.nd.length d.nC, .slice d.rA d.rp.length d.rC, .slice d.yA d.sy.length d.yC, .slice d.bA d.bk.length d.bC, .slice d.wA d.wd.length d.wC, .int .i64 d.sh, .slice d.lA d.rl.length d.lC, .slice d.tA d.st.length d.tC, .slice d.iA d.ini.length d.iC, .slice d.fA d.fin.length d.fC, .slice d.xA d.xn d.xC, .int .i64 d.tz])
  go_enter Try.func10, Try.ntmps10
  go_upto_region 1 with (fail)
  obtain ⟨W, hW⟩ : ∃ W, (w.alloc (.cells #[.string d.nm, .int .i64 d.fl, .slice d.sA d.sl.length d.sC, .slice d.nA d.nd.length d.nC, .slice d.rA d.rp.length d.rC, .slice d.yA d.sy.length d.yC, .slice d.bA d.bk.length d.bC, .slice d.wA d.wd.length d.wC, .int .i64 d.sh, .slice d.lA d.rl.length d.lC, .slice d.tA d.st.length d.tC, .slice d.iA d.ini.length d.iC, .slice d.fA d.fin.length d.fC, .slice d.xA d.xn d.xC, .int .i64 d.tz] 39)) = W := ⟨_, rfl⟩
  rw [hW] at M0 ⊢
  clear hW
  generalize hB : w.heap.size = b0 at M0 HOK ⊢
  have HB := Lib.hid hB
  clear hB
  have M1 : Hid (Has b0 w W (Star (Cel b0 39 (imgD d)) Emp)) := M0
  clear M0
  go_wp2_with (first | (refine wpList_rowW (by kernel_rfl) 39 _ rfl b0 rfl (imgD d) _ (M1.out.getc b0) Try.underlying39 rfl (by kernel_rfl) ?_))
  refine (head09_any d P W (HOK.out _ M1.out.bel)).mono ?_
  rintro e w1 ⟨⟨b1, rfl⟩, hb1⟩
  have M2 := Lib.hid (M1.out.stay hb1)
  have MZ := Lib.hid M2.out.bel
  clear hb1 M1
  cases b1
  ·
    go_wp2
    (go_ret; exact ⟨⟨_, rfl, fun h => by cases h⟩, by rw [HB.out]; exact MZ.out⟩)
  clear MZ
  go_wp2_with (first | (refine wpList_rowW (by kernel_rfl) 39 _ rfl b0 rfl (imgD d) _ (M2.out.getc b0) Try.underlying39 rfl (by kernel_rfl) ?_))
  refine (segments09_any d P w1 (HOK.out _ M2.out.bel)).mono ?_
  rintro e w2 ⟨⟨b2, rfl, hq2⟩, hb2⟩
  have M3 := Lib.hid (M2.out.stay hb2)
  have MZ := Lib.hid M3.out.bel
  clear hb2 M2
  cases b2
  ·
    go_wp2
    (go_ret; exact ⟨⟨_, rfl, fun h => by cases h⟩, by rw [HB.out]; exact MZ.out⟩)
  have HSK := Lib.hid (hq2 rfl)
  clear hq2
  have i13 : w2.cell? ⟨b0, 13, none⟩ = some (.slice d.xA d.xn d.xC) := M3.out.cellat b0 13 rfl
  have i14 : w2.cell? ⟨b0, 14, none⟩ = some (.int .i64 d.tz) := M3.out.cellat b0 14 rfl
  by_cases t1 : d.tz < 0
  ·
    go_wp2
    (go_ret; exact ⟨⟨_, rfl, fun h => by cases h⟩, by rw [HB.out]; exact MZ.out⟩)
  by_cases t2 : 4096 < d.tz
  ·
    go_wp2
    (go_ret; exact ⟨⟨_, rfl, fun h => by cases h⟩, by rw [HB.out]; exact MZ.out⟩)
  by_cases t3 : d.tz < (d.xn : Int)
  ·
    go_wp2
    (go_ret; exact ⟨⟨_, rfl, fun h => by cases h⟩, by rw [HB.out]; exact MZ.out⟩)
  clear MZ
  go_wp2_with (first | (refine wpList_rowW (by kernel_rfl) 39 _ rfl b0 rfl (imgD d) _ (M3.out.getc b0) Try.underlying39 rfl (by kernel_rfl) ?_))
  refine (symbols09_any d P w2 (HOK.out _ M3.out.bel)).mono ?_
  rintro e w3 ⟨⟨b3, rfl⟩, hb3⟩
  have M4 := Lib.hid (M3.out.stay hb3)
  have MZ := Lib.hid M4.out.bel
  clear hb3 M3
  cases b3
  ·
    go_wp2
    (go_ret; exact ⟨⟨_, rfl, fun h => by cases h⟩, by rw [HB.out]; exact MZ.out⟩)
  clear MZ
  clear i13 i14
  have i5 : w3.cell? ⟨b0, 5, none⟩ = some (.slice d.yA d.sy.length d.yC) := M4.out.cellat b0 5 rfl
  have ct : ∀ j v, (#[.slice d.bA d.bk.length d.bC, .slice d.wA d.wd.length d.wC, .int .i64 d.sh] : Array Value).toList[j]? = some v → w3.cell? ⟨b0, 6 + j, none⟩ = some v := fun j v hv => by
    match j, hv with
    | 0, hv => exact M4.out.cellat b0 6 hv
    | 1, hv => exact M4.out.cellat b0 7 hv
    | 2, hv => exact M4.out.cellat b0 8 hv
    | j + 3, hv => simp at hv
  go_wp2_with (first | (refine wpList_partW (by kernel_rfl) 33 _ rfl b0 6 rfl #[.slice d.bA d.bk.length d.bC, .slice d.wA d.wd.length d.wC, .int .i64 d.sh] _ ct Try.underlying33 rfl (by kernel_rfl) ?_))
  refine (right08_any d P w3 (HOK.out _ M4.out.bel)).mono ?_
  rintro e w4 ⟨⟨b4, rfl⟩, hb4⟩
  have M5 := Lib.hid (M4.out.stay hb4)
  have MZ := Lib.hid M5.out.bel
  clear hb4 M4 ct i5
  cases b4
  ·
    go_wp2
    (go_ret; exact ⟨⟨_, rfl, fun h => by cases h⟩, by rw [HB.out]; exact MZ.out⟩)
  clear MZ
  go_wp2_with (first | (refine wpList_rowW (by kernel_rfl) 39 _ rfl b0 rfl (imgD d) _ (M5.out.getc b0) Try.underlying39 rfl (by kernel_rfl) ?_))
  refine (relocs09_any d P w4 (HOK.out _ M5.out.bel)).mono ?_
  rintro e w5 ⟨⟨b5, rfl⟩, hb5⟩
  have M6 := Lib.hid (M5.out.stay hb5)
  have MZ := Lib.hid M6.out.bel
  clear hb5 M5
  cases b5
  ·
    go_wp2
    (go_ret; exact ⟨⟨_, rfl, fun h => by cases h⟩, by rw [HB.out]; exact MZ.out⟩)
  clear MZ
  go_wp2_with (first | (refine wpList_rowW (by kernel_rfl) 39 _ rfl b0 rfl (imgD d) _ (M6.out.getc b0) Try.underlying39 rfl (by kernel_rfl) ?_))
  refine (slots09_any d P w5 (HOK.out _ M6.out.bel)).mono ?_
  rintro e w6 ⟨⟨b6, rfl⟩, hb6⟩
  have M7 := Lib.hid (M6.out.stay hb6)
  have MZ := Lib.hid M7.out.bel
  clear hb6 M6
  cases b6
  ·
    go_wp2
    (go_ret; exact ⟨⟨_, rfl, fun h => by cases h⟩, by rw [HB.out]; exact MZ.out⟩)
  clear MZ
  go_wp2_with (first | (refine wpList_rowW (by kernel_rfl) 39 _ rfl b0 rfl (imgD d) _ (M7.out.getc b0) Try.underlying39 rfl (by kernel_rfl) ?_))
  refine (runs09_any d P w6 (HOK.out _ M7.out.bel)).mono ?_
  rintro e w7 ⟨⟨b7, rfl⟩, hb7⟩
  have M8 := Lib.hid (M7.out.stay hb7)
  have MZ := Lib.hid M8.out.bel
  clear hb7 M7
  cases b7
  ·
    go_wp2
    (go_ret; exact ⟨⟨_, rfl, fun h => by cases h⟩, by rw [HB.out]; exact MZ.out⟩)
  clear MZ
  have MZ := Lib.hid M8.out.bel
  go_wp2
  (go_ret; exact ⟨⟨_, rfl, fun _ => HSK.out⟩, by rw [HB.out]; exact MZ.out⟩)
end Go.Proofs.Ytlkelfaokbdddaa
