/-
  Layer 5: Regions of the program.
  Conditions: none. (My own text.)
-/
import Derived.Test.YtpononkgeeahdaaSpt
import Derived.Test.YtpononkgeeahdaaSpd
import Derived.Deep.LoopGhost
namespace Go.Proofs.Ytpononkgeeahdaa
open Go.RowKit Spm
set_option linter.unusedVariables false
set_option linter.unusedSimpArgs false

/-- A region as it is told: three cells. -/
def rg3 (r : Rg) : List Value := [.int .i64 r.at_, .int .i64 r.sz, .int .i64 r.pm]
theorem regs_info : (Try.prog.info? 65).map (fun i => (i.zero, i.size, i.bytes)) = some (some (.agg #[.int .i64 0, .int .i64 0, .int .i64 0]), 3, 24) := by kernel_rfl
theorem regs_snoc (L : List Rg) (k : Nat) (r : Rg) (h : L[k]? = some r) : (L.take (k + 1)).flatMap rg3 = (L.take k).flatMap rg3 ++ rg3 r := by
  obtain ⟨hk, he⟩ := List.getElem?_eq_some_iff.1 h
  rw [List.take_succ_eq_append_getElem hk, List.flatMap_append, he]
  simp
/-- A list of regions, in memory of its own. -/
def Regs (w : World) (base : Nat) (v : Value) (L : List Rg) : Prop := w.ownsRow base 65 3 v L.length (L.flatMap rg3)

set_option maxHeartbeats 1000000 in
theorem regions_any (a : Nat) (F : Nat → Prop) (L : List Rg) (hok : Ok L) (w : World) (h : PSp w a F L) : Calls Try.prog 33 #[.pointer (some ⟨a, 0, none⟩)] w fun e w' => ∃ v', e = .returned v' ∧ Regs w' w.heap.size v' L ∧ Below w.heap.size w w' := by
  obtain ⟨v, Q, hs, rfl, hF⟩ := h
  obtain ⟨A, cap, rfl, hc0, hcap, hm, hrow⟩ := hs.cells
  have HR := Lib.hid hrow; clear hrow
  have hbox := hs.box.lt
  have hqn : Q.length ≤ 67108864 := by have := hok.len; simp at this; omega
  clear hs hF hok
  unfold maxLen at hm
  obtain ⟨i0, hi, hz0, hz1, hz2⟩ := info_parts regs_info
  have HI := Lib.hid (And.intro hi (And.intro hz0 (And.intro hz1 hz2))); clear hi hz0 hz1 hz2
  go_enter Try.func33, Try.ntmps33
  go_wp2
  go_loopw [3, 11] (fun v i wr => ∃ k : Nat, k ≤ Q.length ∧ i = .int .i64 k ∧ Hid (wr.ownsRow w.heap.size 65 3 v k (((Q.map (·.1)).take k).flatMap rg3)) ∧ Below w.heap.size w wr) (fun _ i _ => Q.length - (intOf i).toNat)
  case atStart => exact ⟨0, Nat.zero_le _, rfl, Lib.hid (World.ownsRow_nil _ _ _ _), Below.refl _ _⟩
  case round =>
    obtain ⟨k, hk, rfl, hown, hbel⟩ := hrel
    by_cases hlt : k < Q.length
    · obtain ⟨q, hq⟩ : ∃ q, Q[k]? = some q := ⟨Q[k], List.getElem?_eq_getElem hlt⟩
      obtain ⟨g, rfl, hg, hcell⟩ := HR.out k q hq
      have hx : (Q.map (·.1))[k]? = some q.1 := by rw [List.getElem?_map, hq]; rfl
      have HX := Lib.hid hx; clear hx
      have HQ := Lib.hid hq; clear hq
      obtain ⟨⟨qa, qs, qp, qb⟩, qk, qc⟩ := q
      have c0 : wr.cell? ⟨g, k * 4, none⟩ = some (.int .i64 qa) := (hbel.cell (p := ⟨g, k * 4, none⟩) hg).trans (hcell 0 _ rfl)
      have c1 : wr.cell? ⟨g, k * 4 + 1, none⟩ = some (.int .i64 qs) := (hbel.cell (p := ⟨g, k * 4 + 1, none⟩) hg).trans (hcell 1 _ rfl)
      have c2 : wr.cell? ⟨g, k * 4 + 2, none⟩ = some (.int .i64 qp) := (hbel.cell (p := ⟨g, k * 4 + 2, none⟩) hg).trans (hcell 2 _ rfl)
      have c3 : wr.cell? ⟨g, k * 4 + 3, none⟩ = some (.slice (some ⟨qk, 0, none⟩) qb.length qc) := (hbel.cell (p := ⟨g, k * 4 + 3, none⟩) hg).trans (hcell 3 _ rfl)
      clear hcell
      have HS := Lib.hid (regs_snoc _ k _ HX.out)
      have HB := Lib.hid hbel; clear hbel
      go_wp2_with (at_builtin; refine wpList_append_own _ rfl _ _ 81 rfl w.heap.size 65 i0 (.agg #[.int .i64 0, .int .i64 0, .int .i64 0]) 3 24 Try.underlying81 HI.out.1 HI.out.2.1 HI.out.2.2.1 HI.out.2.2.2 rfl (by decide) _ k _ rfl ((hown.out.alloc _).alloc _) ⟨wr.heap.size + 1, 0, none⟩ 1 1 [.int .i64 qa, .int .i64 qs, .int .i64 qp] rfl ?c1 ?c2 ?c3 ?c4 ?c5 ?c6 ?_)
      case c3 => first | exact ⟨rfl, rfl, rfl⟩ | (intro u hu; simp only [List.mem_cons, List.not_mem_nil, or_false] at hu; rcases hu with rfl | rfl | rfl <;> rfl)
      case c4 => unfold maxLen; omega
      case c5 => omega
      case c6 => have := HB.out.size; simp; omega
      intro v' w1 hown1 hgrow _
      have hlt1 := hown.out.lt
      have H1 : Hid (w1.ownsRow w.heap.size 65 3 v' (k + 1) (((Q.map (·.1)).take (k + 1)).flatMap rg3)) := Lib.hid (by rw [HS.out]; exact hown1)
      have H2 : Hid (Below w.heap.size w w1) := Lib.hid ((((HB.out.alloc HB.out.size _).alloc (by have := HB.out.size; simp; omega) _)).grown hgrow (by have := HB.out.size; simp; omega) (fun j hj => (hlt1 j hj).1))
      clear hown1 hgrow hlt1
      go_wp2
      go_roundw
      case rel => exact ⟨k + 1, by omega, by go_num, H1, H2.out⟩
      case measure => simp [intOf]; omega
    · have hkq : k = Q.length := by omega
      have H1 : Hid (wr.ownsRow w.heap.size 65 3 u3 (Q.map (·.1)).length ((Q.map (·.1)).flatMap rg3)) := Lib.hid (by
        have h := hown.out
        rw [List.take_of_length_le (by rw [List.length_map]; omega), hkq] at h
        rw [List.length_map]
        exact h)
      clear hkq
      go_wp2
      go_ret
      exact ⟨_, rfl, H1.out, hbel⟩
end Go.Proofs.Ytpononkgeeahdaa
