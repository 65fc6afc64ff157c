/-
  Layer 15: the law's example.
  Conditions: none. (My own text.)
-/
import Derived.Test.YtlkelfaokbdddaaPls
import Derived.Test.YtlkelfaokbdddaaSp4
namespace Go.Proofs.Ytlkelfaokbdddaa
open Go.RowKit Spm
set_option linter.unusedVariables false
set_option linter.unusedSimpArgs false

def awL (A : Option Addr) (c : Nat) : List Sg := [⟨0, 10, [], none, 0, 5⟩, ⟨128, 1, [7], A, c, 3⟩]
set_option maxRecDepth 100000 in
theorem aw_ext (A : Option Addr) (c : Nat) : extS (awL A c) = 192 := by kernel_rfl
def aw1 : List Rg := (mapI [] (awL none 0)).1
set_option maxRecDepth 100000 in
theorem aw_map (A : Option Addr) (c : Nat) : mapI [] (awL A c) = (aw1, 4096, 0) := by kernel_rfl
set_option maxRecDepth 100000 in
theorem aw_gap : gapS aw1 64 = (4160, 0) := by kernel_rfl
set_option maxRecDepth 100000 in
theorem aw_get : getS aw1 4224 2 1 = ([7, 0], 0) := by kernel_rfl
theorem awL_ok (A : Option Addr) (c : Nat) : ∀ s ∈ awL A c, SgOk s := by
  intro s hs
  simp only [awL, List.mem_cons, List.mem_nil_iff, or_false] at hs
  rcases hs with rfl | rfl
  · exact ⟨by show (0 : Int) ≤ 0; decide, by show (0 : Int) ≤ 1048576; decide, by show (-1048576 : Int) ≤ 10; decide, by show (10 : Int) ≤ 524288; decide⟩
  · exact ⟨by show (0 : Int) ≤ 128; decide, by show (128 : Int) ≤ 1048576; decide, by show (-1048576 : Int) ≤ 1; decide, by show (1 : Int) ≤ 524288; decide⟩
theorem awL_at {W : World} {g0 g1 : Nat} {B : Nat} (h0 : Blk W g0 5 #[.int .u8 7]) (h1 : Blk W g1 50 #[.int .i64 0, .int .i64 10, .slice none 0 0, .int .i64 5, .int .i64 128, .int .i64 1, .slice (some ⟨g0, 0, none⟩) 1 1, .int .i64 3]) (hB : W.heap.size ≤ B) :
    SegsAt W (fun k => k < B) (.slice (some ⟨g1, 0, none⟩) 2 2) (awL (some ⟨g0, 0, none⟩) 1) where
  rows := RowsAt.of_blk (l := awL (some ⟨g0, 0, none⟩) 1) (P := fun k => k < B) h1 (by show 2 ≤ maxLen; unfold maxLen; omega) (fun i x hx j u hu => by
    match i, hx with
    | 0, hx =>
      obtain rfl : _ = x := by simpa [awL] using hx
      match j, hu with
      | 0, hu => simpa [segC] using hu
      | 1, hu => simpa [segC] using hu
      | 2, hu => simpa [segC] using hu
      | 3, hu => simpa [segC] using hu
      | j + 4, hu => simp [segC] at hu
    | 1, hx =>
      obtain rfl : _ = x := by simpa [awL] using hx
      match j, hu with
      | 0, hu => simpa [segC] using hu
      | 1, hu => simpa [segC] using hu
      | 2, hu => simpa [segC] using hu
      | 3, hu => simpa [segC] using hu
      | j + 4, hu => simp [segC] at hu
    | i + 2, hx => simp [awL] at hx) (show g1 < B from Nat.lt_of_lt_of_le h1.lt hB)
  bys := fun s hs hn => by
    simp only [awL, List.mem_cons, List.mem_nil_iff, or_false] at hs
    rcases hs with rfl | rfl
    · exact absurd rfl hn
    · refine ⟨g0, 0, rfl, Nat.lt_of_lt_of_le h0.lt hB, h0.lt, fun j x hx => ?_⟩
      match j, hx with
      | 0, hx =>
        obtain rfl : 7 = x := by simpa using hx
        rw [h0.cell]; rfl
      | j + 1, hx => simp at hx
  rng := fun s hs => by
    simp only [awL, List.mem_cons, List.mem_nil_iff, or_false] at hs
    rcases hs with rfl | rfl
    · exact ⟨⟨by show _ ≤ (0 : Int); decide, by show (0 : Int) ≤ _; decide⟩, ⟨by show _ ≤ (10 : Int); decide, by show (10 : Int) ≤ _; decide⟩, ⟨by show _ ≤ (5 : Int); decide, by show (5 : Int) ≤ _; decide⟩, by show 0 ≤ _; exact Nat.zero_le _⟩
    · exact ⟨⟨by show _ ≤ (128 : Int); decide, by show (128 : Int) ≤ _; decide⟩, ⟨by show _ ≤ (1 : Int); decide, by show (1 : Int) ≤ _; decide⟩, ⟨by show _ ≤ (3 : Int); decide, by show (3 : Int) ≤ _; decide⟩, by show 1 ≤ _; unfold maxLen; omega⟩
set_option maxRecDepth 100000 in
set_option maxHeartbeats 4000000 in
theorem awake15 (w : World) : Calls Try.prog 8 #[] w fun e w' => e = .returned (.bool true) ∧ Below w.heap.size w w' := by
  have M0 := Lib.hid ((((Has.start (Below.refl w.heap.size w) (Nat.le_refl _)).newcel 5 #[.int .u8 7]).newcel 50 #[.int .i64 0, .int .i64 10, .slice none 0 0, .int .i64 5, .int .i64 128, .int .i64 1, .slice (some ⟨w.heap.size, 0, none⟩) 1 1, .int .i64 3]).newcel 39 #[.string ⟨#[]⟩, .int .i64 0, .slice none 0 0, .slice none 0 0, .slice none 0 0, .slice none 0 0, .slice none 0 0, .slice none 0 0, .int .i64 0, .slice none 0 0, .slice none 0 0, .slice none 0 0, .slice none 0 0, .slice none 0 0, .int .i64 0])
  have e1 : (w.alloc (.cells #[.int .u8 7] 5)).heap.size = w.heap.size + 1 := by simp
  have e2 : ((w.alloc (.cells #[.int .u8 7] 5)).alloc (.cells #[.int .i64 0, .int .i64 10, .slice none 0 0, .int .i64 5, .int .i64 128, .int .i64 1, .slice (some ⟨w.heap.size, 0, none⟩) 1 1, .int .i64 3] 50)).heap.size = w.heap.size + 1 + 1 := by simp
  rw [e2, e1] at M0
  have M1 := Lib.hid (M0.out.rowc (w.heap.size + 1 + 1) #[.string ⟨#[]⟩, .int .i64 0, (.slice (some ⟨w.heap.size + 1, 0, none⟩) 2 2), .slice none 0 0, .slice none 0 0, .slice none 0 0, .slice none 0 0, .slice none 0 0, .int .i64 0, .slice none 0 0, .slice none 0 0, .slice none 0 0, .slice none 0 0, .slice none 0 0, .int .i64 0])
  go_enter Try.func8, Try.ntmps8
  go_upto_region 2 with (first | (refine wpList_store_row rfl 39 _ _ rfl (w.heap.size + 1 + 1) #[.string ⟨#[]⟩, .int .i64 0, (.slice (some ⟨w.heap.size + 1, 0, none⟩) 2 2), .slice none 0 0, .slice none 0 0, .slice none 0 0, .slice none 0 0, .slice none 0 0, .int .i64 0, .slice none 0 0, .slice none 0 0, .slice none 0 0, .slice none 0 0, .slice none 0 0, .int .i64 0] rfl rfl 39 #[.string ⟨#[]⟩, .int .i64 0, .slice none 0 0, .slice none 0 0, .slice none 0 0, .slice none 0 0, .slice none 0 0, .slice none 0 0, .int .i64 0, .slice none 0 0, .slice none 0 0, .slice none 0 0, .slice none 0 0, .slice none 0 0, .int .i64 0] (M0.out.getc (w.heap.size + 1 + 1)) (by kernel_rfl) rfl (by kernel_rfl) ?_))
  obtain ⟨W, hW⟩ : ∃ W, (((w.alloc (.cells #[.int .u8 7] 5)).alloc (.cells #[.int .i64 0, .int .i64 10, .slice none 0 0, .int .i64 5, .int .i64 128, .int .i64 1, .slice (some ⟨w.heap.size, 0, none⟩) 1 1, .int .i64 3] 50)).alloc (.cells #[.string ⟨#[]⟩, .int .i64 0, .slice none 0 0, .slice none 0 0, .slice none 0 0, .slice none 0 0, .slice none 0 0, .slice none 0 0, .int .i64 0, .slice none 0 0, .slice none 0 0, .slice none 0 0, .slice none 0 0, .slice none 0 0, .int .i64 0] 39)).setRow (w.heap.size + 1 + 1) #[.string ⟨#[]⟩, .int .i64 0, (.slice (some ⟨w.heap.size + 1, 0, none⟩) 2 2), .slice none 0 0, .slice none 0 0, .slice none 0 0, .slice none 0 0, .slice none 0 0, .int .i64 0, .slice none 0 0, .slice none 0 0, .slice none 0 0, .slice none 0 0, .slice none 0 0, .int .i64 0] = W := ⟨_, rfl⟩
  have N := M1
  rw [hW] at N ⊢
  clear hW e1 e2 M0 M1
  generalize w.heap.size + 1 + 1 = g2 at N ⊢
  generalize w.heap.size + 1 = g1 at N ⊢
  generalize hB : w.heap.size = g0 at N ⊢
  have HB := Lib.hid hB
  clear hB
  have HB0 := Lib.hid (N.out.getc g0)
  have HS1 := Lib.hid (N.out.getc g1)
  have HI2 : Hid (Blk W g2 39 (imgA img0 (.slice (some ⟨g1, 0, none⟩) 2 2))) := Lib.hid (N.out.getc g2)
  have HBW := Lib.hid N.out.bel
  have HSZ := Lib.hid N.out.le
  clear N
  have HSG := Lib.hid (awL_at HB0.out HS1.out (Nat.le_refl _))
  have HOKL := Lib.hid (awL_ok (some ⟨g0, 0, none⟩) 1)
  have HEX := Lib.hid (aw_ext (some ⟨g0, 0, none⟩) 1)
  have HMP := Lib.hid (aw_map (some ⟨g0, 0, none⟩) 1)
  generalize awL (some ⟨g0, 0, none⟩) 1 = l at HSG HOKL HEX HMP
  go_wp2_with fail
  refine (own_new (Has.start (Below.refl W.heap.size W) (Nat.le_refl _))).mono ?_
  rintro e w2 ⟨a, rfl, m2⟩
  have M2 := Lib.hid m2
  clear m2
  have C1 := Lib.hid (extent_any img0 _ l _ w2 (HSG.out.below M2.out.bel) HOKL.out)
  rw [HEX.out] at C1
  have HI3 := Lib.hid (HI2.out.stay M2.out.bel HI2.out.lt)
  go_wp2_with (first | (refine wpList_rowW rfl 39 _ rfl g2 rfl (imgA img0 (.slice (some ⟨g1, 0, none⟩) 2 2)) _ HI3.out Try.underlying39 rfl (by kernel_rfl) ?_))
  refine (C1.out).mono ?_
  rintro e w3 ⟨rfl, hb3⟩
  have M3 := Lib.hid (M2.out.stay hb3)
  clear C1 HI3 M2 hb3
  have HI3 := Lib.hid (HI2.out.stay M3.out.bel HI2.out.lt)
  have C2 := Lib.hid (pmap_own M3.out img0 _ l HSG.out HOKL.out)
  rw [HMP.out] at C2
  go_wp2_with (first | (refine wpList_rowW rfl 39 _ rfl g2 rfl (imgA img0 (.slice (some ⟨g1, 0, none⟩) 2 2)) _ HI3.out Try.underlying39 rfl (by kernel_rfl) ?_))
  refine (C2.out).mono ?_
  rintro e w4 ⟨rfl, m4⟩
  have M4 := Lib.hid m4
  clear m4 C2 HI3 M3
  have C3 := Lib.hid (own_gap M4.out 64)
  rw [aw_gap] at C3
  go_wp2_with fail
  refine (C3.out).mono ?_
  rintro e w5 ⟨rfl, m5⟩
  have M5 := Lib.hid m5
  clear m5 C3 M4
  have C4 := Lib.hid (own_read M5.out 4224 (by decide) 2)
  rw [aw_get] at C4
  go_wp2_with fail
  refine (C4.out).mono ?_
  rintro e w6 ⟨v6, rfl, m6⟩
  obtain ⟨A6, c6, rfl, hc6, hm6, hs6⟩ := m6.bt.src'
  obtain ⟨bb, off, rfl, hcell⟩ := hs6 (by simp)
  have b0 : w6.cell? ⟨bb, off, none⟩ = some (.int .u8 7) := hcell 0 7 rfl
  have b1 : w6.cell? ⟨bb, off + 1, none⟩ = some (.int .u8 0) := hcell 1 0 rfl
  have MZ := Lib.hid (HBW.out.trans (m6.bel.mono HSZ.out))
  have hc7 : 2 ≤ c6 := hc6
  have h7 : ([7, 0] : List UInt8).length = 2 := rfl
  clear m6 C4 M5 hcell hs6 hc6
  try simp only [h7]
  go_wp2
  go_ret
  exact ⟨by simp, by rw [HB.out]; exact MZ.out⟩
end Go.Proofs.Ytlkelfaokbdddaa
