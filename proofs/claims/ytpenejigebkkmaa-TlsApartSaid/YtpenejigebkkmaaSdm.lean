/-
  Layer 1's law: Back: lent bytes are as they were; then they are written over.
  Conditions: none. (My own text.)
-/
import Derived.Test.YtpenejigebkkmaaSdl
import Derived.Deep.RegionWith
namespace Go.Proofs.Ytpenejigebkkmaa
open Go.RowKit Spm
set_option linter.unusedVariables false
set_option linter.unusedSimpArgs false

set_option maxRecDepth 100000 in
set_option maxHeartbeats 1000000 in
theorem back_any (g : Nat) (A : Option Addr) (c : Nat) (b : List UInt8) (hb : b.length ≤ 140737488351232) (w : World) (hg : Blk w g 5 (lentC b).toArray) (hs : b ≠ [] → ∃ bb off, A = some ⟨bb, off, none⟩ ∧ bb ≠ g ∧ ∀ j x, b[j]? = some x → w.cell? ⟨bb, off + j, none⟩ = some (byC x)) :
    Calls Try.prog 37 #[.slice (some ⟨g, 0, none⟩) b.length (b.length + 3), .slice A b.length c] w fun e w' => e = .returned (.bool true) ∧ Keeps (fun k => k = g) w w' := by
  obtain ⟨n, hn⟩ : ∃ n, b.length = n := ⟨_, rfl⟩
  rw [hn] at hb ⊢
  have HG := Lib.hid hg
  have HS := Lib.hid hs
  have HN := Lib.hid hn
  have hw3 : IntKind.i64.wrap ((n : Int) + 3) = (n : Int) + 3 := by rw [IntKind.wrap_i64]; omega
  clear hg hs hn
  go_enter Try.func37, Try.ntmps37
  go_wp2_with fail
  go_loopw [6, 7, 8] (fun ok i want wr => ∃ (k : Nat) (cs : Array Value), k ≤ n + 3 ∧ ok = .bool true ∧ i = .int .i64 k ∧ Hid (Blk wr g 5 cs) ∧ Hid (∀ j, k ≤ j → cs[j]? = (lentC b)[j]?) ∧ Hid (Keeps (fun k => k = g) w wr)) (fun _ i _ _ => n + 3 - (intOf i).toNat)
  case atStart => exact ⟨0, _, Nat.zero_le _, rfl, rfl, HG, Lib.hid (fun j _ => by simp), Lib.hid (Keeps.refl _ _)⟩
  case round =>
    obtain ⟨k, cs, hk, rfl, rfl, hB, hC, hK⟩ := hrel
    by_cases hlt : k < n + 3
    · have hfz := hB.out.free k
      have q0 : (0 : Int) ≤ (k : Int) := by omega
      have q1 : (k : Int) < (n : Int) + 3 := by omega
      have HK1 : ∀ v, Hid (Keeps (fun k => k = g) w (wr.setCell ⟨g, k, none⟩ v)) := fun v => Lib.hid (hK.out.setCell (p := ⟨g, k, none⟩) (.inl rfl) _)
      have HB1 : ∀ v, Hid (Blk (wr.setCell ⟨g, k, none⟩ v) g 5 (cs.setIfInBounds k v)) := fun v => Lib.hid (hB.out.set k v)
      have HC1 : ∀ v, Hid (∀ j, k + 1 ≤ j → (cs.setIfInBounds k v)[j]? = (lentC b)[j]?) := fun v => Lib.hid (fun j hj => by
        rw [Array.getElem?_setIfInBounds_ne (by omega)]
        exact hC.out j (by omega))
      by_cases hkn : k < n
      · obtain ⟨x, hx⟩ : ∃ x, b[k]? = some x := ⟨b[k]'(by rw [HN.out]; exact hkn), List.getElem?_eq_getElem _⟩
        obtain ⟨bb, off, rfl, hne, hcell⟩ := HS.out (by intro h; rw [h] at hx; simp at hx)
        have c0 : wr.cell? ⟨bb, off + k, none⟩ = some (byC x) := (World.cell?_of_block (a := ⟨bb, off + k, none⟩) (hK.out.block bb (block_lt_of_cell (hcell k x hx)) hne)).trans (hcell k x hx)
        have c1 : wr.cell? ⟨g, k, none⟩ = some (byC x) := by
          rw [hB.out.cell, hC.out k (Nat.le_refl _)]
          unfold lentC
          rw [List.getElem?_append_left (by rw [List.length_map, HN.out]; exact hkn), List.getElem?_map, hx]
          rfl
        have q2 : (k : Int) < (n : Int) := by omega
        clear hcell hx
        unfold byC at c0 c1
        go_wp2
        go_roundw
        case rel => exact ⟨k + 1, _, by omega, rfl, by go_num, HB1 _, HC1 _, HK1 _⟩
        case measure => simp [intOf]; omega
      · have c1 : wr.cell? ⟨g, k, none⟩ = some (.int .u8 201) := by
          rw [hB.out.cell, hC.out k (Nat.le_refl _)]
          exact lent_get (by rw [HN.out]; omega) (by rw [HN.out]; exact hlt)
        have q2 : ¬ (k : Int) < (n : Int) := by omega
        go_wp2
        go_roundw
        case rel => exact ⟨k + 1, _, by omega, rfl, by go_num, HB1 _, HC1 _, HK1 _⟩
        case measure => simp [intOf]; omega
    · obtain rfl : k = n + 3 := by omega
      go_wp2
      go_ret
      exact ⟨rfl, hK.out⟩

end Go.Proofs.Ytpenejigebkkmaa
