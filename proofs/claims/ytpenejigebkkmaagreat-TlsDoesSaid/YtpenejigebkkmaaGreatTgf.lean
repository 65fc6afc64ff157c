/-
  Layer 1's law: Lent: bytes in a list of their own, with marks behind them.
  Layer 1's law: Back: lent bytes are as they were; then they are written over.
  Conditions: none. (My own text.)
-/
import Derived.Test.YtpenejigebkkmaaGreatSp5
import Derived.Deep.RegionWith
namespace Go.Proofs.YtpenejigebkkmaaGreat
open Go.RowKit Spm
set_option linter.unusedVariables false
set_option linter.unusedSimpArgs false

def lentC (b : List UInt8) : List Value := b.map byC ++ [.int .u8 201, .int .u8 201, .int .u8 201]
theorem lent_get {b : List UInt8} {k : Nat} (h1 : b.length ≤ k) (h2 : k < b.length + 3) : (lentC b)[k]? = some (.int .u8 201) := by
  unfold lentC
  rw [List.getElem?_append_right (by simpa using h1), List.length_map]
  obtain h | h | h : k - b.length = 0 ∨ k - b.length = 1 ∨ k - b.length = 2 := by omega
  all_goals rw [h]; rfl

set_option maxRecDepth 100000 in
set_option maxHeartbeats 1000000 in
theorem lent_any (A : Option Addr) (c : Nat) (b : List UInt8) (hb : b.length ≤ 140737488351232) (w : World) (hs : SrcB w A b) :
    Calls Tryz.prog 24 #[.slice A b.length c] w fun e w' => e = .returned (.slice (some ⟨w.heap.size, 0, none⟩) b.length (b.length + 3)) ∧ Blk w' w.heap.size 5 (lentC b).toArray ∧ Below w.heap.size w w' := by
  obtain ⟨n, hn⟩ : ∃ n, b.length = n := ⟨_, rfl⟩
  have hmk : ∀ W : World, (Instr.makeSlice 38 (.int .i64 ((n : Int) + 3)) (.int .i64 ((n : Int) + 3))).run Tryz.prog W = .ok (.slice (some ⟨W.heap.size, 0, none⟩) (n + 3) (n + 3)) (W.alloc (.cells (madeCells #[.int .u8 0] (n + 3)) 5)) := fun W => by
    have h := run_make_row' (P := Tryz.prog) 38 5 (.int .u8 0) 1 Tryz.underlying38 cloneB_info rfl .i64 .i64 (n + 3) (by omega) (by omega) W
    rwa [show ((n + 3 : Nat) : Int) = (n : Int) + 3 by omega] at h
  obtain ⟨Z, hZ⟩ : ∃ Z, madeCells #[.int .u8 0] (n + 3) = Z := ⟨_, rfl⟩
  rw [hZ] at hmk
  have hzs : Z.size = n + 3 := by rw [← hZ, size_madeCells]
  have hsz : (Tryz.prog.info? 5).map (·.size) = some 1 := by kernel_rfl
  obtain ⟨W, X, hcp, hXs, hX, hWb, hWbel⟩ : ∃ (W : World) (X : Array Value), (∀ ty, (Builtin.copy_ #[38, 38] ty #[.slice (some ⟨w.heap.size, 0, none⟩) (n + 3) (n + 3), .slice A n c]).run Tryz.prog (w.alloc (.cells Z 5)) = .ok (goInt n) W) ∧
      X.size = n + 3 ∧ (∀ j, j < n → X[j]? = (lentC b)[j]?) ∧ Blk W w.heap.size 5 X ∧ Below w.heap.size w W := by
    have hal : Below w.heap.size w (w.alloc (.cells Z 5)) := (Below.refl _ _).alloc (Nat.le_refl _) _
    by_cases h0 : n = 0
    · subst h0
      exact ⟨_, Z, fun ty => run_copy_none (P := Tryz.prog) _ 38 38 ty 5 _ A _ _ 0 c Tryz.underlying38 (by kernel_rfl) (Nat.zero_min _), hzs, fun j hj => absurd hj (Nat.not_lt_zero _), Blk.new _ _ _, hal⟩
    · obtain ⟨bb, off, rfl, hcell⟩ := hs (by intro h; rw [h] at hn; exact h0 hn.symm)
      have hnc : 0 + n = n := Nat.zero_add n
      refine ⟨(w.alloc (.cells Z 5)).setRow w.heap.size (b.map byC ++ Z.toList.drop n).toArray, (b.map byC ++ Z.toList.drop n).toArray, fun ty => by
        have h := run_copy_row Tryz.prog (w.alloc (.cells Z 5)) 38 38 ty 5 w.heap.size 0 (n + 3) (n + 3) ⟨bb, off, none⟩ n c Z 5 (b.map byC) Tryz.underlying38 hsz (heap_alloc_new w _) (by simp [hn]) (fun j u hj => by
          rw [Addr.add_lit]
          rw [List.getElem?_map] at hj
          cases hx : b[j]? with
          | none => rw [hx] at hj; cases hj
          | some x =>
            rw [hx] at hj
            have hu : byC x = u := by simpa using hj
            subst hu
            exact Lib.cell?_alloc_some _ (hcell j x hx)) (by simp [hn, hzs]) (byC_one _)
        rw [List.length_map, hn, hnc, List.take_zero, List.nil_append] at h
        exact h, ?_, ?_, ?_, ?_⟩
      · simp [hn, hzs]
      · intro j hj
        unfold lentC
        rw [List.getElem?_toArray, List.getElem?_append_left (by simp [hn]; omega), List.getElem?_append_left (by simp [hn]; omega)]
      · exact setRow_heap _ _ _ _ _ _ (heap_alloc_new w _)
      · exact (Keeps.trans (F := fun k => w.heap.size ≤ k) (Keeps.of_below hal) (keeps_setRow (fun k => w.heap.size ≤ k) _ _ _ (Nat.le_refl _)) (fun i hi => .inl hi)).below (Nat.le_refl _) (fun k hk => hk)
  have HMK := Lib.hid hmk
  have HCP := Lib.hid hcp
  have HX := Lib.hid hX
  have HB := Lib.hid hWb
  have HW := Lib.hid hWbel
  have HN := Lib.hid hn
  have HXS := Lib.hid hXs
  have hw3 : IntKind.i64.wrap ((n : Int) + 3) = (n : Int) + 3 := by rw [IntKind.wrap_i64]; omega
  have n0 : n ≤ 140737488351232 := by omega
  rw [hn]
  clear hcp hX hWb hWbel hmk hZ hzs hsz hs hn hb hXs
  have hmk := HMK.out
  have hcp := HCP.out
  go_enter Tryz.func24, Tryz.ntmps24
  go_wp2_with fail
  go_loopw [4] (fun i wr => ∃ (k : Nat) (cs : Array Value), n ≤ k ∧ k ≤ n + 3 ∧ i = .int .i64 k ∧ Hid (Blk wr w.heap.size 5 cs) ∧ Hid (cs.size = n + 3) ∧ Hid (∀ j, j < k → cs[j]? = (lentC b)[j]?) ∧ Hid (Below w.heap.size w wr)) (fun i _ => n + 3 - (intOf i).toNat)
  case atStart => exact ⟨n, X, Nat.le_refl _, by omega, rfl, HB, HXS, HX, HW⟩
  case round =>
    obtain ⟨k, cs, hk1, hk2, rfl, hB, hS, hC, hW⟩ := hrel
    by_cases hlt : k < n + 3
    · have hfz := hB.out.free k
      have q0 : (0 : Int) ≤ (k : Int) := by omega
      have q1 : (k : Int) < (n : Int) + 3 := by omega
      have hcell : wr.cell? ⟨w.heap.size, k, none⟩ = some (cs[k]'(by rw [hS.out]; exact hlt)) := by rw [hB.out.cell]; exact Array.getElem?_eq_getElem _
      have HB1 : Hid (Blk (wr.setCell ⟨w.heap.size, k, none⟩ (.int .u8 201)) w.heap.size 5 (cs.setIfInBounds k (.int .u8 201))) := Lib.hid (hB.out.set k _)
      have HS1 : Hid ((cs.setIfInBounds k (.int .u8 201)).size = n + 3) := Lib.hid (by rw [Array.size_setIfInBounds]; exact hS.out)
      have HC1 : Hid (∀ j, j < k + 1 → (cs.setIfInBounds k (.int .u8 201))[j]? = (lentC b)[j]?) := Lib.hid (fun j hj => by
        by_cases hjk : j = k
        · subst hjk
          rw [lent_get (by rw [HN.out]; exact hk1) (by rw [HN.out]; exact hlt), Array.getElem?_setIfInBounds_self_of_lt (by rw [hS.out]; exact hlt)]
        · rw [Array.getElem?_setIfInBounds_ne (by omega)]
          exact hC.out j (by omega))
      have HW1 : Hid (Below w.heap.size w (wr.setCell ⟨w.heap.size, k, none⟩ (.int .u8 201))) := Lib.hid (hW.out.setCell (p := ⟨w.heap.size, k, none⟩) (Nat.le_refl _) _)
      go_wp2
      go_roundw
      case rel => exact ⟨k + 1, _, by omega, by omega, by go_num, HB1, HS1, HC1, HW1⟩
      case measure => simp [intOf]; omega
    · obtain rfl : k = n + 3 := by omega
      have he : cs = (lentC b).toArray := by
        apply Array.ext_getElem?
        intro j
        rw [show (lentC b).toArray[j]? = (lentC b)[j]? from by simp]
        by_cases hj : j < n + 3
        · exact hC.out j hj
        · rw [Array.getElem?_eq_none (by rw [hS.out]; omega), List.getElem?_eq_none (by unfold lentC; simp [HN.out]; omega)]
      have HB1 : Hid (Blk wr w.heap.size 5 (lentC b).toArray) := Lib.hid (by rw [← he]; exact hB.out)
      go_wp2
      go_ret
      exact ⟨rfl, HB1.out, hW.out⟩

end Go.Proofs.YtpenejigebkkmaaGreat

namespace Go.Proofs.YtpenejigebkkmaaGreat
open Go.RowKit Spm
set_option linter.unusedVariables false
set_option linter.unusedSimpArgs false

set_option maxRecDepth 100000 in
set_option maxHeartbeats 1000000 in
theorem back_any (g : Nat) (A : Option Addr) (c : Nat) (b : List UInt8) (hb : b.length ≤ 140737488351232) (w : World) (hg : Blk w g 5 (lentC b).toArray) (hs : b ≠ [] → ∃ bb off, A = some ⟨bb, off, none⟩ ∧ bb ≠ g ∧ ∀ j x, b[j]? = some x → w.cell? ⟨bb, off + j, none⟩ = some (byC x)) :
    Calls Tryz.prog 25 #[.slice (some ⟨g, 0, none⟩) b.length (b.length + 3), .slice A b.length c] w fun e w' => e = .returned (.bool true) ∧ Keeps (fun k => k = g) w w' := by
  obtain ⟨n, hn⟩ : ∃ n, b.length = n := ⟨_, rfl⟩
  rw [hn] at hb ⊢
  have HG := Lib.hid hg
  have HS := Lib.hid hs
  have HN := Lib.hid hn
  have hw3 : IntKind.i64.wrap ((n : Int) + 3) = (n : Int) + 3 := by rw [IntKind.wrap_i64]; omega
  clear hg hs hn
  go_enter Tryz.func25, Tryz.ntmps25
  go_wp2_with fail
  go_loopw [6, 7, 8] (fun ok i want wr => ∃ (k : Nat) (cs : Array Value), k ≤ n + 3 ∧ ok = .bool true ∧ i = .int .i64 k ∧ Hid (Blk wr g 5 cs) ∧ Hid (∀ j, k ≤ j → cs[j]? = (lentC b)[j]?) ∧ Hid (Keeps (fun k => k = g) w wr)) (fun _ i _ _ => n + 3 - (intOf i).toNat)
  case atStart => exact ⟨0, _, Nat.zero_le _, rfl, rfl, HG, Lib.hid (fun j _ => by simp), Lib.hid (Keeps.refl _ _)⟩
  case round =>
    obtain ⟨k, cs, hk, rfl, rfl, hB, hC, hK⟩ := hrel
    by_cases hlt : k < n + 3
    · have hfz := hB.out.free k
      have q0 : (0 : Int) ≤ (k : Int) := by omega
      have q1 : (k : Int) < (n : Int) + 3 := by omega
      have HK1 : ∀ v, Hid (Keeps (fun k => k = g) w (wr.setCell ⟨g, k, none⟩ v)) := fun v => Lib.hid (hK.out.setCell (p := ⟨g, k, none⟩) (.inl rfl) _)
      have HB1 : ∀ v, Hid (Blk (wr.setCell ⟨g, k, none⟩ v) g 5 (cs.setIfInBounds k v)) := fun v => Lib.hid (hB.out.set k v)
      have HC1 : ∀ v, Hid (∀ j, k + 1 ≤ j → (cs.setIfInBounds k v)[j]? = (lentC b)[j]?) := fun v => Lib.hid (fun j hj => by
        rw [Array.getElem?_setIfInBounds_ne (by omega)]
        exact hC.out j (by omega))
      by_cases hkn : k < n
      · obtain ⟨x, hx⟩ : ∃ x, b[k]? = some x := ⟨b[k]'(by rw [HN.out]; exact hkn), List.getElem?_eq_getElem _⟩
        obtain ⟨bb, off, rfl, hne, hcell⟩ := HS.out (by intro h; rw [h] at hx; simp at hx)
        have c0 : wr.cell? ⟨bb, off + k, none⟩ = some (byC x) := (World.cell?_of_block (a := ⟨bb, off + k, none⟩) (hK.out.block bb (block_lt_of_cell (hcell k x hx)) hne)).trans (hcell k x hx)
        have c1 : wr.cell? ⟨g, k, none⟩ = some (byC x) := by
          rw [hB.out.cell, hC.out k (Nat.le_refl _)]
          unfold lentC
          rw [List.getElem?_append_left (by rw [List.length_map, HN.out]; exact hkn), List.getElem?_map, hx]
          rfl
        have q2 : (k : Int) < (n : Int) := by omega
        clear hcell hx
        unfold byC at c0 c1
        go_wp2
        go_roundw
        case rel => exact ⟨k + 1, _, by omega, rfl, by go_num, HB1 _, HC1 _, HK1 _⟩
        case measure => simp [intOf]; omega
      · have c1 : wr.cell? ⟨g, k, none⟩ = some (.int .u8 201) := by
          rw [hB.out.cell, hC.out k (Nat.le_refl _)]
          exact lent_get (by rw [HN.out]; omega) (by rw [HN.out]; exact hlt)
        have q2 : ¬ (k : Int) < (n : Int) := by omega
        go_wp2
        go_roundw
        case rel => exact ⟨k + 1, _, by omega, rfl, by go_num, HB1 _, HC1 _, HK1 _⟩
        case measure => simp [intOf]; omega
    · obtain rfl : k = n + 3 := by omega
      go_wp2
      go_ret
      exact ⟨rfl, hK.out⟩

end Go.Proofs.YtpenejigebkkmaaGreat
