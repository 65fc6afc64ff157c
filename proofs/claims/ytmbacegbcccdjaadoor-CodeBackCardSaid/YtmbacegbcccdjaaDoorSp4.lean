/-
  Layer 5: MapAt, Map, New of the program.
  Layer 5: Protect of the program.
  Layer 5: slices.Delete at regions, of a slice that the call owns.
  Layer 5: Unmap of the program.
  Layer 5, plain: each act leaves a space as it may be.
  Layer 5: a law's own space; awake.
  Conditions: none. (My own text.)
-/
import Derived.Test.YtmbacegbcccdjaaDoorSpla
import Derived.Test.YtmbacegbcccdjaaDoorSplb
import Derived.Test.YtmbacegbcccdjaaDoorSpl4
import Derived.Test.YtmbacegbcccdjaaDoorSplc
import Derived.Test.YtmbacegbcccdjaaDoorSp3
namespace Go.Proofs.YtmbacegbcccdjaaDoor
open Go.RowKit Spm
set_option linter.unusedVariables false
set_option linter.unusedSimpArgs false

theorem some_of {Q : List RowP} {j : Nat} (h : j < Q.length) : ∃ x, (Q.map (·.1))[j]? = some x := by
  rw [List.getElem?_map, List.getElem?_eq_getElem h]; exact ⟨_, rfl⟩

end Go.Proofs.YtmbacegbcccdjaaDoor

namespace Go.Proofs.YtmbacegbcccdjaaDoor
open Go.RowKit Spm
set_option linter.unusedVariables false
set_option linter.unusedSimpArgs false

def setP (q : RowP) (p : Int) : RowP := ({ q.1 with pm := p }, q.2)
theorem rows_setP (p : Int) : ∀ (Q : List RowP) (k : Nat), k < Q.length → (Q.flatMap rgC).set (k * 4 + 2) (.int .i64 p) = (Q.modify k (setP · p)).flatMap rgC
  | [], k, h => by simp at h
  | q :: Q, 0, _ => by simp [List.flatMap_cons, rgC, setP]
  | q :: Q, k + 1, h => by
    have ih := rows_setP p Q k (by simpa using h)
    have e : (k + 1) * 4 + 2 = (rgC q).length + (k * 4 + 2) := by show (k + 1) * 4 + 2 = 4 + (k * 4 + 2); omega
    rw [List.flatMap_cons, List.modify_succ_cons, List.flatMap_cons, ← ih, e, List.set_append_right _ _ (by omega), Nat.add_sub_cancel_left]
theorem foot_setP (a : Nat) (v : Value) (Q : List RowP) (k : Nat) (p : Int) : foot a v (Q.modify k (setP · p)) = foot a v Q := by
  unfold foot
  rw [map_modify_same (fun q : RowP => q.2.1) (setP · p) (fun _ => rfl)]

theorem Spc.protect {ts tr : TypeId} {w : World} {a g n c : Nat} {Q : List RowP} (h : Spc ts tr w a (.slice (some ⟨g, 0, none⟩) n c) Q) (hn : n = Q.length) {k : Nat} (hk : k < Q.length) (p : Int) :
    Spc ts tr (w.setCell ⟨g, k * 4 + 2, none⟩ (.int .i64 p)) a (.slice (some ⟨g, 0, none⟩) n c) (Q.modify k (setP · p)) := by
  subst hn
  refine ⟨h.box.other (p := ⟨g, k * 4 + 2, none⟩) (nodup_av h.nd rfl) _, ?_, ?_, ?_⟩
  · rw [← rows_setP p Q k hk, List.length_modify]
    exact (h.row.stored _ _).1
  · intro x hx
    have key : ∀ y ∈ Q, Bys (w.setCell ⟨g, k * 4 + 2, none⟩ (.int .i64 p)) 0 (byV y) y.1.bs := fun y hy => owns_block (h.each y hy) (fun b hb => by
      simp [byV, Value.ownBlock] at hb
      subst hb
      exact Below.heap_setCell _ _ _ _ (fun e => nodup_v h.nd hy rfl e.symm))
    rcases mem_modify hx with ⟨y, hy, rfl⟩ | ⟨i, hi, hxi⟩
    · exact key y (List.mem_of_getElem? hy)
    · exact key x (List.mem_of_getElem? hxi)
  · rw [foot_setP]; exact h.nd

theorem right1 (p : Int) : right 1 p = if p < 0 ∨ 7 < p then 1 else 0 := by
  unfold right
  by_cases h : p < 0 ∨ 7 < p
  · rw [if_pos (by omega), if_pos h]
  · rw [if_neg (by omega), if_neg h]

end Go.Proofs.YtmbacegbcccdjaaDoor

namespace Go.Proofs.YtmbacegbcccdjaaDoor
open Go.RowKit Spm
set_option linter.unusedVariables false
set_option linter.unusedSimpArgs false
open Go.Lib Go.Proofs

/-- An append whose run is known, as one step of a region that draws (after the guide's step for copy). -/
theorem step_append_runI {P : Program} {ops : Array Oper} {o : Oper} {a : Act} {w : World} {K : Act → World → Prop} {Q : Exit → Act → World → Prop} {E : Prop}
    (hg : o.guard = none) (d x : Operand) (dT sT : TypeId) (hop : o.op = Op.call { callee := Callee.builtin Builtin.append, args := #[d, x], argTypes := #[dT, sT] })
    (v u : Value) (hd : a.eval d = v) (hx : a.eval x = u) {v' : Value} {w' : World} (hr : (Builtin.append_ #[dT, sT] o.type #[v, u]).run P w = .ok v' w') (hK : K (a.put o.dst v') w') :
    if Region.wanted o (yielded ops a.tmps) = true then Oper.wp P o a w K Q else E := by
  have hw : Region.wanted o (yielded ops a.tmps) = true := by simp [Region.wanted, hg]
  rw [if_pos hw]
  unfold Oper.wp
  simp [execOp, hop, resolve, invoke, builtin, hd, hx, hr, Result.andThen]
  exact hK

/-- A region of noughts. -/
def zeroR : List Value := [.int .i64 0, .int .i64 0, .int .i64 0, .slice none 0 0]
theorem del_list {C xs : List Value} {k n c : Nat} (hk : k < n) (hnc : n ≤ c) (hx : C.take (n * 4) = xs) (hl : xs.length = n * 4) (hc : C.length = c * 4) :
    let C1 := C.take (k * 4) ++ xs.drop ((k + 1) * 4) ++ C.drop (k * 4 + (xs.drop ((k + 1) * 4)).length)
    let C2 := C1.take ((n - 1) * 4) ++ zeroR ++ C1.drop ((n - 1) * 4 + 4)
    C1.length = c * 4 ∧ C2.length = c * 4 ∧ C2.take ((n - 1) * 4) = xs.take (k * 4) ++ xs.drop ((k + 1) * 4) := by
  intro C1 C2
  have e1 : C1.length = c * 4 := by simp only [C1, List.length_append, List.length_take, List.length_drop, hl, hc]; omega
  have hlen : (C.take (k * 4) ++ xs.drop ((k + 1) * 4)).length = (n - 1) * 4 := by simp only [List.length_append, List.length_take, List.length_drop, hl, hc]; omega
  have e2 : C1.take ((n - 1) * 4) = xs.take (k * 4) ++ xs.drop ((k + 1) * 4) := by
    simp only [C1]
    rw [← hlen, List.take_left, ← hx, List.take_take, Nat.min_eq_left (by omega)]
  refine ⟨e1, ?_, ?_⟩
  · simp only [C2, List.length_append, List.length_take, List.length_drop, e1, show zeroR.length = 4 from rfl]; omega
  · simp only [C2]
    rw [e2]
    have hl2 : (xs.take (k * 4) ++ xs.drop ((k + 1) * 4)).length = (n - 1) * 4 := by simp only [List.length_append, List.length_take, List.length_drop, hl]; omega
    rw [List.append_assoc, ← hl2, List.take_left]

end Go.Proofs.YtmbacegbcccdjaaDoor

namespace Go.Proofs.YtmbacegbcccdjaaDoor
open Go.RowKit Spm
set_option linter.unusedVariables false
set_option linter.unusedSimpArgs false

theorem erase_rows (Q : List RowP) (k : Nat) : (Q.flatMap rgC).take (k * 4) ++ (Q.flatMap rgC).drop ((k + 1) * 4) = (Q.eraseIdx k).flatMap rgC := by
  rw [rows_take, rows_drop, List.eraseIdx_eq_take_drop_succ, List.flatMap_append]

end Go.Proofs.YtmbacegbcccdjaaDoor

namespace Go.Proofs.YtmbacegbcccdjaaDoor
open Go.RowKit Spm
set_option linter.unusedVariables false
set_option linter.unusedSimpArgs false

theorem Spm.Ok.unmap {L : List Rg} (h : Ok L) (at_ : Int) : Ok (unmapS L at_).1 := by
  unfold unmapS
  split
  · exact ⟨fun r hr => h.each r (List.mem_of_mem_eraseIdx hr), h.srt.sublist (List.eraseIdx_sublist _ _)⟩
  · exact h

theorem pw_get {α : Type} {R : α → α → Prop} {L : List α} (h : L.Pairwise R) {i j : Nat} {x y : α} (hx : L[i]? = some x) (hy : L[j]? = some y) (hij : i < j) : R x y := by
  obtain ⟨hi, ei⟩ := List.getElem?_eq_some_iff.1 hx
  obtain ⟨hj, ej⟩ := List.getElem?_eq_some_iff.1 hy
  have := List.pairwise_iff_getElem.1 h i j hi hj hij
  rwa [ei, ej] at this

theorem Spm.Ok.modify {L : List Rg} (h : Ok L) (k : Nat) (f : Rg → Rg) (hf : ∀ r, L[k]? = some r → RgOk (f r) ∧ (f r).at_ = r.at_ ∧ (f r).sz = r.sz) : Ok (L.modify k f) := by
  have hget : ∀ (i : Nat) (x : Rg), (L.modify k f)[i]? = some x → ∃ y : Rg, L[i]? = some y ∧ RgOk x ∧ x.at_ = y.at_ ∧ x.sz = y.sz := by
    intro i x hx
    rw [List.getElem?_modify] at hx
    cases hy : L[i]? with
    | none => rw [hy] at hx; simp at hx
    | some y =>
      rw [hy] at hx
      by_cases hik : k = i
      · subst hik
        have : f y = x := by simpa using hx
        subst this
        exact ⟨y, rfl, hf y hy⟩
      · have : y = x := by simpa [hik] using hx
        subst this
        exact ⟨y, rfl, h.each y (List.mem_of_getElem? hy), rfl, rfl⟩
  refine ⟨fun r hr => ?_, ?_⟩
  · obtain ⟨i, hi⟩ := List.mem_iff_getElem?.1 hr
    obtain ⟨y, _, h2, _⟩ := hget i r hi
    exact h2
  · rw [List.pairwise_iff_getElem]
    intro i j hi hj hij
    obtain ⟨x, hx, _, a1, a2⟩ := hget i _ (List.getElem?_eq_getElem hi)
    obtain ⟨y, hy, _, b1, b2⟩ := hget j _ (List.getElem?_eq_getElem hj)
    have := pw_get h.srt hx hy hij
    unfold Apart at this ⊢
    rw [a1, a2, b1]
    exact this

theorem Spm.Ok.protect {L : List Rg} (h : Ok L) (at_ p : Int) : Ok (protectS L at_ p).1 := by
  unfold protectS
  split
  · exact h
  · split
    · refine h.modify _ _ (fun r hr => ⟨?_, rfl, rfl⟩)
      have hr := h.each r (List.mem_of_getElem? hr)
      exact ⟨hr.lo, hr.al, hr.sal, hr.slo, hr.shi, hr.hi, by simp only; omega, by simp only; omega, hr.len⟩
    · exact h

theorem over_len' (l b : List UInt8) (o : Nat) (h : o + b.length ≤ l.length) : (over l o b).length = l.length := by unfold over; simp; omega

theorem Spm.Ok.set {L : List Rg} (h : Ok L) (at_ : Int) (b : List UInt8) (p : Int) : Ok (setS L at_ b p).1 := by
  unfold setS
  split
  · exact h
  · split
    · exact h
    · rename_i hE
      have hE' : partS L at_ b.length p = 0 := by simpa using hE
      refine h.modify _ _ (fun r hr => ⟨?_, rfl, rfl⟩)
      have ho := h.each r (List.mem_of_getElem? hr)
      have hl : (over r.bs (at_ - r.at_).toNat b).length = r.bs.length := by
        obtain ⟨r', hr', h1, _, hin⟩ := partS_ok hE'
        rw [hr] at hr'
        cases hr'
        obtain ⟨h2, h3⟩ := inside_iff hin
        have := ho.len
        exact over_len' _ _ _ (by omega)
      exact ⟨ho.lo, ho.al, ho.sal, ho.slo, ho.shi, ho.hi, ho.p0, ho.p7, by simp only [hl]; exact ho.len⟩

theorem Spm.Ok.mapAt {L : List Rg} (h : Ok L) (at_ size p : Int) : Ok (mapAtS L at_ size p).1 := by
  by_cases hr : right size p = 0
  · by_cases hb : atBad at_ size
    · rw [mapAtS_b hr hb]; exact h
    · cases hm : meets L at_ (up size)
      · rw [mapAtS_ok hr hb hm]
        obtain ⟨z1, z2, z3, z4⟩ := right_eq hr
        obtain ⟨u1, u2, u3, u4⟩ := up_ge size z1
        have u5 := up_le size z1 z2
        unfold atBad at hb
        unfold meets at hm
        simp only [Bool.or_eq_false_iff, Bool.and_eq_false_iff, decide_eq_false_iff_not] at hm
        obtain ⟨m1, m2⟩ := hm
        generalize hk : insP at_ L = k at m1 m2
        have hkl : k ≤ L.length := by rw [← hk]; exact insP_le _ _
        have hlen : ((zeros (up size)).length : Int) = up size := by unfold zeros; simp; omega
        have hbefore : ∀ i x, L[i]? = some x → i < k → x.at_ + x.sz ≤ at_ := by
          intro i x hx hi
          obtain ⟨j, rfl⟩ : ∃ j, k = j + 1 := ⟨k - 1, by omega⟩
          rw [Nat.add_sub_cancel, List.getD_eq_getElem?_getD] at m1
          obtain ⟨y, hy⟩ : ∃ y, L[j]? = some y := ⟨L[j]'(by omega), List.getElem?_eq_getElem (by omega)⟩
          rw [hy] at m1
          have hyb : y.at_ < at_ := insP_before at_ L j y hy (by rw [hk]; omega)
          have hyE : y.at_ + y.sz ≤ at_ := by
            rcases m1 with m1 | m1
            · omega
            · simp only [Option.getD_some] at m1; omega
          rcases Nat.lt_or_ge i j with h1 | h1
          · have h2 := pw_get h.srt hx hy h1
            unfold Apart at h2
            omega
          · have : i = j := by omega
            subst this
            rw [hy] at hx
            cases hx
            exact hyE
        have hafter : ∀ i x, L[i]? = some x → k ≤ i → at_ + up size ≤ x.at_ := by
          intro i x hx hi
          have hil := (List.getElem?_eq_some_iff.1 hx).1
          obtain ⟨y, hy⟩ : ∃ y, L[k]? = some y := ⟨L[k]'(by omega), List.getElem?_eq_getElem (by omega)⟩
          rw [List.getD_eq_getElem?_getD, hy] at m2
          have hyE : at_ + up size ≤ y.at_ := by
            rcases m2 with m2 | m2
            · omega
            · simp only [Option.getD_some] at m2; omega
          rcases Nat.lt_or_ge k i with h1 | h1
          · have h2 := pw_get h.srt hy hx h1
            have h3 := (h.each y (List.mem_of_getElem? hy)).slo
            unfold Apart at h2
            omega
          · have : i = k := by omega
            subst this
            rw [hy] at hx
            cases hx
            exact hyE
        have htake : ∀ x ∈ L.take k, x.at_ + x.sz ≤ at_ ∧ x ∈ L := fun x hx => by
          obtain ⟨i, hi⟩ := List.mem_iff_getElem?.1 hx
          rw [List.getElem?_take] at hi
          split at hi
          · exact ⟨hbefore i x hi (by assumption), List.mem_of_getElem? hi⟩
          · cases hi
        have hdrop : ∀ x ∈ L.drop k, at_ + up size ≤ x.at_ ∧ x ∈ L := fun x hx => by
          obtain ⟨i, hi⟩ := List.mem_iff_getElem?.1 hx
          rw [List.getElem?_drop] at hi
          exact ⟨hafter _ x hi (by omega), List.mem_of_getElem? hi⟩
        refine ⟨fun r hr => ?_, ?_⟩
        · rcases List.mem_append.1 hr with hr | hr
          · exact h.each r (htake r hr).2
          · rcases List.mem_cons.1 hr with rfl | hr
            · exact ⟨by simp only; omega, by simp only; omega, u2, u3, u5, by simp only; omega, z3, z4, hlen⟩
            · exact h.each r (hdrop r hr).2
        · rw [List.pairwise_append]
          refine ⟨h.srt.sublist (List.take_sublist _ _), List.pairwise_cons.2 ⟨fun x hx => ?_, h.srt.sublist (List.drop_sublist _ _)⟩, fun x hx y hy => ?_⟩
          · exact (hdrop x hx).1
          · have h1 := (htake x hx).1
            rcases List.mem_cons.1 hy with rfl | hy
            · exact h1
            · have h2 := (hdrop y hy).1
              unfold Apart
              omega
      · rw [mapAtS_m hr hb hm]; exact h
  · rw [mapAtS_r hr]; exact h

theorem Spm.Ok.map {L : List Rg} (h : Ok L) (size p : Int) : Ok (mapS L size p).1 := by
  unfold mapS
  split
  · exact h
  · split
    · exact h
    · exact h.mapAt _ _ _
end Go.Proofs.YtmbacegbcccdjaaDoor

namespace Go.Proofs.YtmbacegbcccdjaaDoor
open Go.RowKit Spm
set_option linter.unusedVariables false
set_option linter.unusedSimpArgs false

/-! The contracts, at a space of the law's own. -/
section
variable {B : Nat} {w wr : World} {a : Nat} {L : List Rg}
end

def wk1 : List Rg := (mapS [] 1 3).1
def wk2 : List Rg := (mapS wk1 65 1).1
def wk3 : List Rg := (unmapS wk2 4096).1
theorem wk_1 : (mapS [] 1 3).2.1 = 4096 ∧ (mapS [] 1 3).2.2 = 0 := by decide +kernel
theorem wk_2 : (mapS wk1 65 1).2.1 = 4160 ∧ (mapS wk1 65 1).2.2 = 0 := by decide +kernel
theorem wk_3 : (unmapS wk2 4096).2 = 0 := by decide +kernel
theorem wk_4 : (gapS wk3 65).1 = 4288 ∧ (gapS wk3 65).2 = 0 := by decide +kernel
theorem wk_5 : (setS wk3 4160 (bytesS 1) 2).2 = 52 ∧ (setS wk3 4160 (bytesS 1) 2).1 = wk3 := by decide +kernel
theorem wk_6 : (setS wk3 4160 (bytesS 1) 0).2 = 0 := by decide +kernel

end Go.Proofs.YtmbacegbcccdjaaDoor
