/-
  Layer 5: slices.Delete at regions, of a slice that the call owns.
  Conditions: none. (My own text.)
-/
import Derived.Test.YtpononkgeeahdaaSpo
namespace Go.Proofs.Ytpononkgeeahdaa
open Go.RowKit Spm
set_option linter.unusedVariables false
set_option linter.unusedSimpArgs false
open Go.Lib Go.Proofs

/-- An append whose run is known, as one step of a region that draws (after the guide's step for copy). -/
theorem step_append_runI {P : Program} {ops : Array Oper} {o : Oper} {a : Act} {w : World} {K : Act → World → Prop} {Q : Exit → Act → World → Prop} {E : Prop}
    (hg : o.guard = none) (d x : Operand) (dT sT : TypeId) (hop : o.op = Op.call { callee := Callee.builtin Builtin.append, args := #[d, x], argTypes := #[dT, sT] })
    (v u : Value) (hd : a.eval d = v) (hx : a.eval x = u) {v' : Value} {w' : World} (hr : (Builtin.append_ #[dT, sT] o.type #[v, u]).run P w = .ok v' w') (hK : K (a.put o.dst v') w') :
    if Region.wanted o (yielded ops a.tmps) = true then Oper.wp P o a w K Q else E := by
  have hw : Region.wanted o (yielded ops a.tmps) = true := by simp [Region.wanted, hg]
  rw [if_pos hw]
  unfold Oper.wp
  simp [execOp, hop, resolve, invoke, builtin, hd, hx, hr, Result.andThen]
  exact hK

/-- A region of noughts. -/
def zeroR : List Value := [.int .i64 0, .int .i64 0, .int .i64 0, .slice none 0 0]
theorem zero_region : ∀ w, (zeroValue 67).run Try.prog w = .ok (.agg #[.int .i64 0, .int .i64 0, .int .i64 0, .slice none 0 0]) w := fun w => by kernel_rfl

theorem run_clear_one (W : World) (g o c : Nat) (cur : Array Value) (hg : W.heap[g]? = some (.cells cur 67 (0, 0))) (hfit : o + 4 ≤ cur.size) (ty : TypeId) :
    (Builtin.clear_ #[59] ty #[.slice (some ⟨g, o, none⟩) 1 c]).run Try.prog W = .ok (.tuple #[]) (W.setRow g (cur.toList.take o ++ zeroR ++ cur.toList.drop (o + 4)).toArray) := by
  have hz : (Builtin.zeroCells (Value.agg #[.int .i64 0, .int .i64 0, .int .i64 0, .slice none 0 0]).cells 1).toList = zeroR := by kernel_rfl
  have hst := run_storeCells_at Try.prog g o 67 zeroR 0 cur W hg (by simpa [zeroR] using hfit) (by intro v hv; simp only [zeroR, List.mem_cons, List.not_mem_nil, or_false] at hv; rcases hv with rfl | rfl | rfl | rfl <;> rfl)
  simp only [Nat.add_zero] at hst
  have hl4 : zeroR.length = 4 := rfl
  rw [hl4] at hst
  simp [Builtin.clear_, run_underlying Try.underlying59, zero_region, hz, hst]

theorem del_list {C xs : List Value} {k n c : Nat} (hk : k < n) (hnc : n ≤ c) (hx : C.take (n * 4) = xs) (hl : xs.length = n * 4) (hc : C.length = c * 4) :
    let C1 := C.take (k * 4) ++ xs.drop ((k + 1) * 4) ++ C.drop (k * 4 + (xs.drop ((k + 1) * 4)).length)
    let C2 := C1.take ((n - 1) * 4) ++ zeroR ++ C1.drop ((n - 1) * 4 + 4)
    C1.length = c * 4 ∧ C2.length = c * 4 ∧ C2.take ((n - 1) * 4) = xs.take (k * 4) ++ xs.drop ((k + 1) * 4) := by
  intro C1 C2
  have e1 : C1.length = c * 4 := by simp only [C1, List.length_append, List.length_take, List.length_drop, hl, hc]; omega
  have hlen : (C.take (k * 4) ++ xs.drop ((k + 1) * 4)).length = (n - 1) * 4 := by simp only [List.length_append, List.length_take, List.length_drop, hl, hc]; omega
  have e2 : C1.take ((n - 1) * 4) = xs.take (k * 4) ++ xs.drop ((k + 1) * 4) := by
    simp only [C1]
    rw [← hlen, List.take_left, ← hx, List.take_take, Nat.min_eq_left (by omega)]
  refine ⟨e1, ?_, ?_⟩
  · simp only [C2, List.length_append, List.length_take, List.length_drop, e1, show zeroR.length = 4 from rfl]; omega
  · simp only [C2]
    rw [e2]
    have hl2 : (xs.take (k * 4) ++ xs.drop ((k + 1) * 4)).length = (n - 1) * 4 := by simp only [List.length_append, List.length_take, List.length_drop, hl]; omega
    rw [List.append_assoc, ← hl2, List.take_left]

set_option maxHeartbeats 1000000 in
theorem delete_walk (g n c k : Nat) (C : Array Value) (xs : List Value) (w : World) (hk : k < n) (hnc : n ≤ c) (hc63 : c ≤ 9223372036854775807)
    (hg : w.heap[g]? = some (.cells C 67 (0, 0))) (hC : C.size = c * 4) (hxs : C.toList.take (n * 4) = xs) (h1c : ∀ u ∈ xs, u.oneCell' = true) :
    Calls Try.prog 59 #[.slice (some ⟨g, 0, none⟩) n c, .int .i64 k, .int .i64 ((k : Int) + 1)] w fun e w' =>
      e = .returned (.slice (some ⟨g, 0, none⟩) (n - 1) c) ∧ ∃ C', C'.size = c * 4 ∧ C'.toList.take ((n - 1) * 4) = xs.take (k * 4) ++ xs.drop ((k + 1) * 4) ∧ w' = (w.drew).setRow g C' := by
  obtain ⟨i0, hi0, hz0, hz1, hz2⟩ := info_parts cloneR_info
  have hCl : C.toList.length = c * 4 := by simpa using hC
  have hxl : xs.length = n * 4 := by rw [← hxs, List.length_take, Array.length_toList]; omega
  obtain ⟨s1, s2, s3⟩ := del_list (C := C.toList) hk hnc hxs hxl hCl
  obtain ⟨C1, hC1⟩ : ∃ C1, C.toList.take (k * 4) ++ xs.drop ((k + 1) * 4) ++ C.toList.drop (k * 4 + (xs.drop ((k + 1) * 4)).length) = C1 := ⟨_, rfl⟩
  simp only [hC1] at s1 s2 s3
  have hdl : (xs.drop ((k + 1) * 4)).length = (n - (k + 1)) * 4 := by rw [List.length_drop, hxl]; omega
  have hcell : ∀ j u, (xs.drop ((k + 1) * 4))[j]? = some u → w.cell? ⟨g, (k + 1) * 4 + j, none⟩ = some u := fun j u hj => by
    rw [cell_of_row w g _ _ _ _ hg]
    rw [List.getElem?_drop, ← hxs, List.getElem?_take] at hj
    split at hj
    · simpa using hj
    · cases hj
  have hap : ∀ (A2 : Addr), (k + 1 < n → A2 = ⟨g, (k + 1) * 4, none⟩) → ∀ ty dc, (Builtin.append_ #[59, 59] ty #[.slice (some ⟨g, 0, none⟩) k c, .slice (some A2) (n - (k + 1)) dc]).run Try.prog w.drew = .ok (.slice (some ⟨g, 0, none⟩) (n - 1) c) (w.drew.setRow g C1.toArray) := fun A2 hA2 ty dc => by
    have h := run_append_room (P := Try.prog) w.drew 59 ty 67 i0 Try.underlying59 hi0 g k c C hg A2 (n - (k + 1)) dc (xs.drop ((k + 1) * 4)) (by rw [hz1, hdl]) (fun j u hj => by
      have hjl := (List.getElem?_eq_some_iff.1 hj).1
      rw [hA2 (by omega), Addr.add_lit]
      exact hcell j u hj) (fun u hu => h1c u (List.mem_of_mem_drop hu)) (by omega) (by rw [hz1, hdl]; omega)
    rw [hz1, hC1, show k + (n - (k + 1)) = n - 1 by omega] at h
    exact h
  have hclr : ∀ (W : World), W.heap = (w.drew.setRow g C1.toArray).heap → ∀ ty dc, (Builtin.clear_ #[59] ty #[.slice (some ⟨g, (n - 1) * 4, none⟩) 1 dc]).run Try.prog W = .ok (.tuple #[]) (W.setRow g (C1.take ((n - 1) * 4) ++ zeroR ++ C1.drop ((n - 1) * 4 + 4)).toArray) := fun W hW ty dc => by
    have hg1 : W.heap[g]? = some (.cells C1.toArray 67 (0, 0)) := by rw [hW]; exact setRow_heap w.drew g C _ _ _ hg
    exact run_clear_one W g ((n - 1) * 4) dc C1.toArray hg1 (by simp only [List.size_toArray, s1]; omega) ty
  have HFIN : Hid (∃ C' : Array Value, C'.size = c * 4 ∧ C'.toList.take ((n - 1) * 4) = xs.take (k * 4) ++ xs.drop ((k + 1) * 4) ∧ (w.drew.setRow g C1.toArray).setRow g (C1.take ((n - 1) * 4) ++ zeroR ++ C1.drop ((n - 1) * 4 + 4)).toArray = w.drew.setRow g C') := Lib.hid ⟨_, by simpa using s2, by simpa using s3, setRow_setRow _ _ _ _⟩
  have hw1 : IntKind.i64.wrap ((k : Int) + 1) = (k : Int) + 1 := by rw [IntKind.wrap_i64]; omega
  have hb1 : (0 : Int) ≤ (k : Int) + 1 := by omega
  have htn : ((k : Int) + 1).toNat = k + 1 := by omega
  have hkn : (k : Int) + 1 ≤ (n : Int) := by omega
  have hkn2 : k + 1 ≤ n := by omega
  have hkk : (k : Int) ≤ (k : Int) + 1 := by omega
  have hki : k ≤ n := by omega
  have hkc0 : k ≤ c := by omega
  have hkc1 : k + 1 ≤ c := by omega
  have hkc2 : (k : Int) + 1 ≤ (c : Int) := by omega
  have hne : ¬ ((k : Int) = (k : Int) + 1) := by omega
  have hbc : ¬ (c = k) := by omega
  have hbn : ¬ (c = n - 1) := by omega
  have hn1 : n - (n - 1) = 1 := by omega
  have hn2 : n - 1 ≤ n := by omega
  have hn3 : n - 1 ≤ c := by omega
  have hclr' := hclr _ rfl
  have HAP0 : Hid (c = k + 1 → ∀ ty, (Builtin.append_ #[59, 59] ty #[.slice (some ⟨g, 0, none⟩) k c, .slice (some ⟨g, 0, none⟩) 0 0]).run Try.prog w.drew = .ok (.slice (some ⟨g, 0, none⟩) k c) (w.drew.setRow g C1.toArray)) := Lib.hid (fun hcc ty => by
    have h := hap ⟨g, 0, none⟩ (fun h => by omega) ty 0
    rwa [show n - (k + 1) = 0 by omega, show n - 1 = k by omega] at h)
  clear s1 s2 s3 hC1 hdl hcell hxl hCl hxs hC hg hclr hi0 hz0 hz1 hz2
  by_cases hkc : c = k + 1
  · have HA0 := Lib.hid (HAP0.out hkc)
    clear HAP0 hap
    subst hkc
    obtain rfl : n = k + 1 := by omega
    have hf := HFIN.out
    simp only [Nat.add_sub_cancel, List.append_assoc] at hf
    have HF := Lib.hid hf; clear hf HFIN
    simp only [Nat.add_sub_cancel, List.append_assoc] at hclr'
    go_enter Try.func59, Try.ntmps59
    go_wp2
    go_region_law (refine step_append_runI rfl _ _ 59 59 rfl (.slice (some ⟨g, 0, none⟩) k (k + 1)) (.slice (some ⟨g, 0, none⟩) 0 0) (by simp [Act.eval, Act.put]) (by simp [Act.eval, Act.put]) (HA0.out _) ?_)
    go_wp2
    go_ret
    exact ⟨rfl, HF.out⟩
  · go_enter Try.func59, Try.ntmps59
    go_wp2
    go_region_law (refine step_append_runI rfl _ _ 59 59 rfl (.slice (some ⟨g, 0, none⟩) k c) (.slice (some ⟨g, (k + 1) * 4, none⟩) (n - (k + 1)) (c - (k + 1))) (by simp [Act.eval, Act.put]) (by simp [Act.eval, Act.put]) (hap _ (fun _ => rfl) _ _) ?_)
    go_wp2
    go_ret
    have hf := HFIN.out
    rw [List.append_assoc] at hf
    exact ⟨rfl, hf⟩
end Go.Proofs.Ytpononkgeeahdaa
