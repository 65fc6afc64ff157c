/-
  SpaceApart: the walk.
  Conditions: none. (My own text.)
-/
import Derived.Test.YtblmppdfdihogaaSqd
import Derived.Test.YtblmppdfdihogaaSqp
namespace Go.Proofs.Ytblmppdfdihogaa
open Go.RowKit Spm
set_option linter.unusedVariables false
set_option linter.unusedSimpArgs false

/-- Where the first k regions end. -/
def endOf (L : List Rg) (k : Nat) : Int := (L.take k).foldl (fun _ r => r.at_ + r.sz) 4096
theorem endOf_succ {L : List Rg} {k : Nat} {r : Rg} (h : L[k]? = some r) : endOf L (k + 1) = r.at_ + r.sz := by
  obtain ⟨hk, he⟩ := List.getElem?_eq_some_iff.1 h
  unfold endOf
  rw [List.take_succ_eq_append_getElem hk, he, List.foldl_append]
  rfl
theorem endOf_le {L : List Rg} (h : Ok L) {k : Nat} {r : Rg} (hk : L[k]? = some r) : endOf L k ≤ r.at_ := by
  cases k with
  | zero => exact (h.each r (List.mem_of_getElem? hk)).lo
  | succ j =>
    have hl := (List.getElem?_eq_some_iff.1 hk).1
    obtain ⟨s, hs⟩ : ∃ s, L[j]? = some s := ⟨L[j]'(by omega), List.getElem?_eq_getElem (by omega)⟩
    rw [endOf_succ hs]
    exact pw_get h.srt hs hk (by omega)
theorem endOf_bound {L : List Rg} (h : Ok L) {k : Nat} (hk : k ≤ L.length) : 4096 ≤ endOf L k ∧ endOf L k ≤ 4294967296 := by
  cases k with
  | zero => exact ⟨Int.le_refl _, by show (4096 : Int) ≤ _; decide⟩
  | succ j =>
    obtain ⟨s, hs⟩ : ∃ s, L[j]? = some s := ⟨L[j]'(by omega), List.getElem?_eq_getElem (by omega)⟩
    rw [endOf_succ hs]
    have := h.each s (List.mem_of_getElem? hs)
    have h1 := this.lo; have h2 := this.slo; have h3 := this.hi
    omega

set_option maxHeartbeats 1000000 in
theorem apart_walk (v : Value) (l : List ActM) (w : World) (hv : ActsV w w.heap.size v l) : Calls Try.prog 3 #[v] w fun e w' => e = .returned (.bool true) ∧ Below w.heap.size w w' := by
  have A1 := Lib.hid awake_any
  have C1 : Hid (∀ {w1 : World}, Below w.heap.size w w1 → Calls Try.prog 11 #[v] w1 fun e w' => ∃ a, e = .returned (.pointer (some ⟨a, 0, none⟩)) ∧ Mine w.heap.size w w' a (playS [] (l.map (·.x)))) := Lib.hid (fun h => played_any h h.size v l hv)
  clear hv
  go_enter Try.func3, Try.ntmps3
  go_wp2_with fail
  refine (A1.out _).mono ?_
  rintro e w1 ⟨rfl, h1⟩
  have H1 := Lib.hid h1; clear h1
  go_wp2_with fail
  refine (C1.out H1.out).mono ?_
  rintro e w2 ⟨a, rfl, m2⟩
  have M2 := Lib.hid (Has.of_mine m2); clear m2
  generalize playS [] (l.map (·.x)) = L at M2
  go_wp2_with fail
  refine (own_regions M2.out).mono ?_
  rintro e w3 ⟨v', rfl, m3⟩
  obtain ⟨A, c, rfl, hc1, hc2, hat⟩ := m3.rs.at_
  have hlen := M2.out.ok.len
  have HK := Lib.hid M2.out.ok
  have HAT := Lib.hid hat; clear hat
  have HB := Lib.hid m3.bel; clear m3 M2
  unfold maxLen at hc2
  go_wp2_with fail
  go_loopw [5, 7] (fun e i wr => ∃ k : Nat, k ≤ L.length ∧ i = .int .i64 k ∧ e = .int .i64 (endOf L k) ∧ Below w3.heap.size w3 wr) (fun _ i _ => L.length - (intOf i).toNat)
  case atStart => exact ⟨0, Nat.zero_le _, rfl, rfl, Below.refl _ _⟩
  case round =>
    obtain ⟨k, hk, rfl, rfl, hbel⟩ := hrel
    by_cases hlt : k < L.length
    · obtain ⟨r, hr⟩ : ∃ r, L[k]? = some r := ⟨L[k], List.getElem?_eq_getElem hlt⟩
      obtain ⟨g, rfl, hg, q⟩ := HAT.out k r hr
      obtain ⟨ra, rs, rp, rb⟩ := r
      have c0 : wr.cell? ⟨g, k * 3, none⟩ = some (.int .i64 ra) := (hbel.cell (p := ⟨g, k * 3, none⟩) hg).trans (q 0 _ rfl)
      have c1 : wr.cell? ⟨g, k * 3 + 1, none⟩ = some (.int .i64 rs) := (hbel.cell (p := ⟨g, k * 3 + 1, none⟩) hg).trans (q 1 _ rfl)
      have c2 : wr.cell? ⟨g, k * 3 + 2, none⟩ = some (.int .i64 rp) := (hbel.cell (p := ⟨g, k * 3 + 2, none⟩) hg).trans (q 2 _ rfl)
      have ho := HK.out.each _ (List.mem_of_getElem? hr)
      have o1 := ho.lo; have o2 := ho.al; have o3 := ho.sal; have o4 := ho.slo; have o5 := ho.shi; have o6 := ho.hi; have o7 := ho.p0; have o8 := ho.p7
      simp only at o1 o2 o3 o4 o5 o6 o7 o8
      have o9 := endOf_le HK.out hr
      simp only at o9
      have HN := Lib.hid (endOf_succ hr)
      have HBL := Lib.hid hbel
      have n1 : ¬ ra < endOf L k := by omega
      have n2 : ¬ rs < 64 := by omega
      have n3 : ¬ rp < 0 := by omega
      have n4 : ¬ 7 < rp := by omega
      have n5 : (0 : Int) ≤ ra := by omega
      have n6 : (0 : Int) ≤ rs := by omega
      have n7 : (k : Int) < (L.length : Int) := by omega
      have n8 : (0 : Int) ≤ (k : Int) := by omega
      clear q hr ho hbel
      go_wp2
      go_quiet (fail)
      go_wp2
      go_roundw
      case rel => exact ⟨k + 1, by omega, by go_num, by rw [HN.out], below_drewN HBL.out _⟩
      case measure => simp [intOf]; omega
    · have hb := endOf_bound HK.out hk
      obtain rfl : k = L.length := by omega
      have hb2 := hb.2
      go_wp2
      go_ret
      exact ⟨by simp [hb2], HB.out.trans (hbel.mono HB.out.size)⟩
end Go.Proofs.Ytblmppdfdihogaa
