/-
  Layer 5: MapAt, Map, New of the program.
  Layer 5: Protect of the program.
  Layer 5: slices.Delete at regions, of a slice that the call owns.
  Layer 5: Unmap of the program.
  Layer 5, plain: each act leaves a space as it may be.
  Layer 5: a law's own space; awake.
  Conditions: none. (My own text.)
-/
import Derived.Test.YtpenejigebkkmaaGreatSpla
import Derived.Test.YtpenejigebkkmaaGreatSplb
import Derived.Test.YtpenejigebkkmaaGreatSpl4
import Derived.Test.YtpenejigebkkmaaGreatSplc
import Derived.Test.YtpenejigebkkmaaGreatSp3
namespace Go.Proofs.YtpenejigebkkmaaGreat
open Go.RowKit Spm
set_option linter.unusedVariables false
set_option linter.unusedSimpArgs false

theorem some_of {Q : List RowP} {j : Nat} (h : j < Q.length) : ∃ x, (Q.map (·.1))[j]? = some x := by
  rw [List.getElem?_map, List.getElem?_eq_getElem h]; exact ⟨_, rfl⟩

theorem mapAt_any (a : Nat) (F : Nat → Prop) (L : List Rg) (hok : Ok L) (at_ size p : Int) (w : World) (h : PSp w a F L) : Calls Tryz.prog 63 #[.pointer (some ⟨a, 0, none⟩), .int .i64 at_, .int .i64 size, .int .i64 p] w (SetsE a F (mapAtS L at_ size p) w) := by
  by_cases hr : right size p = 0
  · by_cases hb : atBad at_ size
    · rw [mapAtS_b hr hb]
      exact mapAt_b a F L at_ size p hr hb w h
    · obtain ⟨v, Q, hs, rfl, hF⟩ := h
      have hle := insP_le at_ (Q.map (·.1))
      rw [List.length_map] at hle
      cases hK : insP at_ (Q.map (·.1)) with
      | zero =>
        rcases Nat.eq_zero_or_pos Q.length with hn | hn
        · exact mapAt_n0 a v Q F hok at_ size p hr hb w hs hF hK hn
        · obtain ⟨x, hx⟩ := some_of hn
          by_cases hd : x.at_ < at_ + up size
          · exact mapAt_m1 a v Q F hok at_ size p hr hb w hs hF hK hn (fun y hy => by rw [hx] at hy; cases hy; exact hd)
          · exact mapAt_o0 a v Q F hok at_ size p hr hb w hs hF hK hn (fun y hy => by rw [hx] at hy; cases hy; omega)
      | succ j =>
        obtain ⟨y, hy⟩ := some_of (Q := Q) (j := j) (by omega)
        by_cases hd1 : at_ < y.at_ + y.sz
        · rcases Nat.lt_or_ge (j + 1) Q.length with hn | hn
          · exact mapAt_m2a j a v Q F hok at_ size p hr hb w hs hF hK hn (fun z hz => by rw [hy] at hz; cases hz; exact hd1)
          · exact mapAt_m2b j a v Q F hok at_ size p hr hb w hs hF hK (by omega) (fun z hz => by rw [hy] at hz; cases hz; exact hd1)
        · rcases Nat.lt_or_ge (j + 1) Q.length with hn | hn
          · obtain ⟨x, hx⟩ := some_of hn
            by_cases hd : x.at_ < at_ + up size
            · exact mapAt_m3 j a v Q F hok at_ size p hr hb w hs hF hK hn (fun z hz => by rw [hy] at hz; cases hz; omega) (fun z hz => by rw [hx] at hz; cases hz; exact hd)
            · exact mapAt_oj j a v Q F hok at_ size p hr hb w hs hF hK hn (fun z hz => by rw [hy] at hz; cases hz; omega) (fun z hz => by rw [hx] at hz; cases hz; omega)
          · exact mapAt_nj j a v Q F hok at_ size p hr hb w hs hF hK (by omega) (fun z hz => by rw [hy] at hz; cases hz; omega)
  · rw [mapAtS_r hr]
    exact mapAt_r a F L at_ size p hr w h

/-- An act that answers a number and an error. -/
def Sets2 (a : Nat) (F : Nat → Prop) (r : List Rg × Int × Int) (w : World) (e : Ending) (w' : World) : Prop := e = .returned (.tuple #[.int .i64 r.2.1, .int .i64 r.2.2]) ∧ PSp w' a (fun k => F k ∨ w.heap.size ≤ k) r.1 ∧ Keeps F w w'
theorem Sets2.same {a : Nat} {F : Nat → Prop} {L : List Rg} {n err : Int} {w w' : World} (h : PSp w a F L) (hb : Below w.heap.size w w') : Sets2 a F (L, n, err) w (.returned (.tuple #[.int .i64 n, .int .i64 err])) w' :=
  ⟨rfl, (h.stay hb).mono (fun k hk _ => .inl hk), Keeps.of_below hb⟩

set_option maxRecDepth 100000 in
set_option maxHeartbeats 1000000 in
theorem map_any (a : Nat) (F : Nat → Prop) (L : List Rg) (hok : Ok L) (size p : Int) (w : World) (h : PSp w a F L) : Calls Tryz.prog 43 #[.pointer (some ⟨a, 0, none⟩), .int .i64 size, .int .i64 p] w (Sets2 a F (mapS L size p) w) := by
  have c1 := fun w => right_any size p w
  by_cases hr : right size p = 0
  · rw [hr] at c1
    have C1 := Lib.hid c1; clear c1
    have C2 := Lib.hid (gap_any a F L hok size w h)
    by_cases hg : (gapS L size).2 = 0
    · have e : mapS L size p = ((mapAtS L (gapS L size).1 size p).1, (gapS L size).1, (mapAtS L (gapS L size).1 size p).2) := by unfold mapS; rw [if_neg (by simp [hr]), if_neg (by simp [hg])]
      rw [e]
      rw [hg] at C2
      have C3 := Lib.hid (fun w1 (hb : Below w.heap.size w w1) => (mapAt_any a F L hok (gapS L size).1 size p w1 (h.stay hb)).mono fun e w' h' => SetsE.after hb h')
      generalize (gapS L size).1 = g at C2 C3 ⊢
      generalize mapAtS L g size p = r at C3 ⊢
      clear e hr hg hok h
      go_enter Tryz.func43, Tryz.ntmps43
      go_wp2_with fail
      refine (C1.out _).mono ?_
      rintro e w1 ⟨rfl, rfl⟩
      go_wp2_with fail
      refine (C2.out).mono ?_
      rintro e w1 ⟨rfl, h1⟩
      have H1 := Lib.hid h1; clear h1
      go_wp2_with fail
      refine (C3.out _ H1.out).mono ?_
      rintro e w2 ⟨rfl, h2, h3⟩
      have H2 := Lib.hid h2; clear h2
      have H3 := Lib.hid h3; clear h3
      go_wp2
      go_ret2
      exact ⟨rfl, H2.out, H3.out⟩
    · have e : mapS L size p = (L, 0, (gapS L size).2) := by unfold mapS; rw [if_neg (by simp [hr]), if_pos hg]
      rw [e]
      have H := Lib.hid h
      generalize gapS L size = g at C2 hg ⊢
      obtain ⟨g1, g2⟩ := g
      simp only at C2 hg ⊢
      clear e hr hok h
      go_enter Tryz.func43, Tryz.ntmps43
      go_wp2_with fail
      refine (C1.out _).mono ?_
      rintro e w1 ⟨rfl, rfl⟩
      go_wp2_with fail
      refine (C2.out).mono ?_
      rintro e w1 ⟨rfl, h1⟩
      have H1 := Lib.hid h1; clear h1
      go_wp2
      go_ret2
      exact Sets2.same H.out H1.out
  · have e : mapS L size p = (L, 0, 1) := by unfold mapS; rw [if_pos hr]
    rw [e]
    rw [right_ne hr] at c1
    have C1 := Lib.hid c1; clear c1
    have H := Lib.hid h
    clear e hr hok h
    go_enter Tryz.func43, Tryz.ntmps43
    go_wp2_with fail
    refine (C1.out _).mono ?_
    rintro e w1 ⟨rfl, rfl⟩
    go_wp2
    go_ret2
    exact Sets2.same H.out (Below.refl _ _)

set_option maxRecDepth 100000 in
/-- A new space. -/
theorem new_any (w : World) : Calls Tryz.prog 6 #[] w fun e w' => e = .returned (.pointer (some ⟨w.heap.size, 0, none⟩)) ∧ PSp w' w.heap.size (fun k => w.heap.size ≤ k) [] ∧ Below w.heap.size w w' := by
  have HP : Hid (PSp (w.alloc (.cells #[.slice none 0 0] 59)) w.heap.size (fun k => w.heap.size ≤ k) []) := Lib.hid ⟨.slice none 0 0, [], ⟨Blk.new _ _ _, World.ownsRow_nil _ _ _ _, by simp, by simp [foot, Value.ownBlock]⟩, rfl, by simp [foot, Value.ownBlock]⟩
  go_enter Tryz.func6, Tryz.ntmps6
  go_wp2
  go_ret
  exact ⟨rfl, HP.out, (Below.refl _ _).alloc (Nat.le_refl _) _⟩
end Go.Proofs.YtpenejigebkkmaaGreat

namespace Go.Proofs.YtpenejigebkkmaaGreat
open Go.RowKit Spm
set_option linter.unusedVariables false
set_option linter.unusedSimpArgs false

def setP (q : RowP) (p : Int) : RowP := ({ q.1 with pm := p }, q.2)
theorem rows_setP (p : Int) : ∀ (Q : List RowP) (k : Nat), k < Q.length → (Q.flatMap rgC).set (k * 4 + 2) (.int .i64 p) = (Q.modify k (setP · p)).flatMap rgC
  | [], k, h => by simp at h
  | q :: Q, 0, _ => by simp [List.flatMap_cons, rgC, setP]
  | q :: Q, k + 1, h => by
    have ih := rows_setP p Q k (by simpa using h)
    have e : (k + 1) * 4 + 2 = (rgC q).length + (k * 4 + 2) := by show (k + 1) * 4 + 2 = 4 + (k * 4 + 2); omega
    rw [List.flatMap_cons, List.modify_succ_cons, List.flatMap_cons, ← ih, e, List.set_append_right _ _ (by omega), Nat.add_sub_cancel_left]
theorem foot_setP (a : Nat) (v : Value) (Q : List RowP) (k : Nat) (p : Int) : foot a v (Q.modify k (setP · p)) = foot a v Q := by
  unfold foot
  rw [map_modify_same (fun q : RowP => q.2.1) (setP · p) (fun _ => rfl)]

theorem Spc.protect {ts tr : TypeId} {w : World} {a g n c : Nat} {Q : List RowP} (h : Spc ts tr w a (.slice (some ⟨g, 0, none⟩) n c) Q) (hn : n = Q.length) {k : Nat} (hk : k < Q.length) (p : Int) :
    Spc ts tr (w.setCell ⟨g, k * 4 + 2, none⟩ (.int .i64 p)) a (.slice (some ⟨g, 0, none⟩) n c) (Q.modify k (setP · p)) := by
  subst hn
  refine ⟨h.box.other (p := ⟨g, k * 4 + 2, none⟩) (nodup_av h.nd rfl) _, ?_, ?_, ?_⟩
  · rw [← rows_setP p Q k hk, List.length_modify]
    exact (h.row.stored _ _).1
  · intro x hx
    have key : ∀ y ∈ Q, Bys (w.setCell ⟨g, k * 4 + 2, none⟩ (.int .i64 p)) 0 (byV y) y.1.bs := fun y hy => owns_block (h.each y hy) (fun b hb => by
      simp [byV, Value.ownBlock] at hb
      subst hb
      exact Below.heap_setCell _ _ _ _ (fun e => nodup_v h.nd hy rfl e.symm))
    rcases mem_modify hx with ⟨y, hy, rfl⟩ | ⟨i, hi, hxi⟩
    · exact key y (List.mem_of_getElem? hy)
    · exact key x (List.mem_of_getElem? hxi)
  · rw [foot_setP]; exact h.nd

theorem right1 (p : Int) : right 1 p = if p < 0 ∨ 7 < p then 1 else 0 := by
  unfold right
  by_cases h : p < 0 ∨ 7 < p
  · rw [if_pos (by omega), if_pos h]
  · rw [if_neg (by omega), if_neg h]

end Go.Proofs.YtpenejigebkkmaaGreat

namespace Go.Proofs.YtpenejigebkkmaaGreat
open Go.RowKit Spm
set_option linter.unusedVariables false
set_option linter.unusedSimpArgs false
open Go.Lib Go.Proofs

/-- An append whose run is known, as one step of a region that draws (after the guide's step for copy). -/
theorem step_append_runI {P : Program} {ops : Array Oper} {o : Oper} {a : Act} {w : World} {K : Act → World → Prop} {Q : Exit → Act → World → Prop} {E : Prop}
    (hg : o.guard = none) (d x : Operand) (dT sT : TypeId) (hop : o.op = Op.call { callee := Callee.builtin Builtin.append, args := #[d, x], argTypes := #[dT, sT] })
    (v u : Value) (hd : a.eval d = v) (hx : a.eval x = u) {v' : Value} {w' : World} (hr : (Builtin.append_ #[dT, sT] o.type #[v, u]).run P w = .ok v' w') (hK : K (a.put o.dst v') w') :
    if Region.wanted o (yielded ops a.tmps) = true then Oper.wp P o a w K Q else E := by
  have hw : Region.wanted o (yielded ops a.tmps) = true := by simp [Region.wanted, hg]
  rw [if_pos hw]
  unfold Oper.wp
  simp [execOp, hop, resolve, invoke, builtin, hd, hx, hr, Result.andThen]
  exact hK

/-- A region of noughts. -/
def zeroR : List Value := [.int .i64 0, .int .i64 0, .int .i64 0, .slice none 0 0]
set_option maxRecDepth 100000 in
theorem zero_region : ∀ w, (zeroValue 74).run Tryz.prog w = .ok (.agg #[.int .i64 0, .int .i64 0, .int .i64 0, .slice none 0 0]) w := fun w => by kernel_rfl

set_option maxRecDepth 100000 in
theorem run_clear_one (W : World) (g o c : Nat) (cur : Array Value) (hg : W.heap[g]? = some (.cells cur 74 (0, 0))) (hfit : o + 4 ≤ cur.size) (ty : TypeId) :
    (Builtin.clear_ #[57] ty #[.slice (some ⟨g, o, none⟩) 1 c]).run Tryz.prog W = .ok (.tuple #[]) (W.setRow g (cur.toList.take o ++ zeroR ++ cur.toList.drop (o + 4)).toArray) := by
  have hz : (Builtin.zeroCells (Value.agg #[.int .i64 0, .int .i64 0, .int .i64 0, .slice none 0 0]).cells 1).toList = zeroR := by kernel_rfl
  have hst := run_storeCells_at Tryz.prog g o 74 zeroR 0 cur W hg (by simpa [zeroR] using hfit) (by intro v hv; simp only [zeroR, List.mem_cons, List.not_mem_nil, or_false] at hv; rcases hv with rfl | rfl | rfl | rfl <;> rfl)
  simp only [Nat.add_zero] at hst
  have hl4 : zeroR.length = 4 := rfl
  rw [hl4] at hst
  simp [Builtin.clear_, run_underlying Tryz.underlying57, zero_region, hz, hst]

theorem del_list {C xs : List Value} {k n c : Nat} (hk : k < n) (hnc : n ≤ c) (hx : C.take (n * 4) = xs) (hl : xs.length = n * 4) (hc : C.length = c * 4) :
    let C1 := C.take (k * 4) ++ xs.drop ((k + 1) * 4) ++ C.drop (k * 4 + (xs.drop ((k + 1) * 4)).length)
    let C2 := C1.take ((n - 1) * 4) ++ zeroR ++ C1.drop ((n - 1) * 4 + 4)
    C1.length = c * 4 ∧ C2.length = c * 4 ∧ C2.take ((n - 1) * 4) = xs.take (k * 4) ++ xs.drop ((k + 1) * 4) := by
  intro C1 C2
  have e1 : C1.length = c * 4 := by simp only [C1, List.length_append, List.length_take, List.length_drop, hl, hc]; omega
  have hlen : (C.take (k * 4) ++ xs.drop ((k + 1) * 4)).length = (n - 1) * 4 := by simp only [List.length_append, List.length_take, List.length_drop, hl, hc]; omega
  have e2 : C1.take ((n - 1) * 4) = xs.take (k * 4) ++ xs.drop ((k + 1) * 4) := by
    simp only [C1]
    rw [← hlen, List.take_left, ← hx, List.take_take, Nat.min_eq_left (by omega)]
  refine ⟨e1, ?_, ?_⟩
  · simp only [C2, List.length_append, List.length_take, List.length_drop, e1, show zeroR.length = 4 from rfl]; omega
  · simp only [C2]
    rw [e2]
    have hl2 : (xs.take (k * 4) ++ xs.drop ((k + 1) * 4)).length = (n - 1) * 4 := by simp only [List.length_append, List.length_take, List.length_drop, hl]; omega
    rw [List.append_assoc, ← hl2, List.take_left]

set_option maxRecDepth 100000 in
set_option maxHeartbeats 1000000 in
theorem delete_walk (g n c k : Nat) (C : Array Value) (xs : List Value) (w : World) (hk : k < n) (hnc : n ≤ c) (hc63 : c ≤ 9223372036854775807)
    (hg : w.heap[g]? = some (.cells C 74 (0, 0))) (hC : C.size = c * 4) (hxs : C.toList.take (n * 4) = xs) (h1c : ∀ u ∈ xs, u.oneCell' = true) :
    Calls Tryz.prog 48 #[.slice (some ⟨g, 0, none⟩) n c, .int .i64 k, .int .i64 ((k : Int) + 1)] w fun e w' =>
      e = .returned (.slice (some ⟨g, 0, none⟩) (n - 1) c) ∧ ∃ C', C'.size = c * 4 ∧ C'.toList.take ((n - 1) * 4) = xs.take (k * 4) ++ xs.drop ((k + 1) * 4) ∧ w' = (w.drew).setRow g C' := by
  obtain ⟨i0, hi0, hz0, hz1, hz2⟩ := info_parts cloneR_info
  have hCl : C.toList.length = c * 4 := by simpa using hC
  have hxl : xs.length = n * 4 := by rw [← hxs, List.length_take, Array.length_toList]; omega
  obtain ⟨s1, s2, s3⟩ := del_list (C := C.toList) hk hnc hxs hxl hCl
  obtain ⟨C1, hC1⟩ : ∃ C1, C.toList.take (k * 4) ++ xs.drop ((k + 1) * 4) ++ C.toList.drop (k * 4 + (xs.drop ((k + 1) * 4)).length) = C1 := ⟨_, rfl⟩
  simp only [hC1] at s1 s2 s3
  have hdl : (xs.drop ((k + 1) * 4)).length = (n - (k + 1)) * 4 := by rw [List.length_drop, hxl]; omega
  have hcell : ∀ j u, (xs.drop ((k + 1) * 4))[j]? = some u → w.cell? ⟨g, (k + 1) * 4 + j, none⟩ = some u := fun j u hj => by
    rw [cell_of_row w g _ _ _ _ hg]
    rw [List.getElem?_drop, ← hxs, List.getElem?_take] at hj
    split at hj
    · simpa using hj
    · cases hj
  have hap : ∀ (A2 : Addr), (k + 1 < n → A2 = ⟨g, (k + 1) * 4, none⟩) → ∀ ty dc, (Builtin.append_ #[57, 57] ty #[.slice (some ⟨g, 0, none⟩) k c, .slice (some A2) (n - (k + 1)) dc]).run Tryz.prog w.drew = .ok (.slice (some ⟨g, 0, none⟩) (n - 1) c) (w.drew.setRow g C1.toArray) := fun A2 hA2 ty dc => by
    have h := run_append_room (P := Tryz.prog) w.drew 57 ty 74 i0 Tryz.underlying57 hi0 g k c C hg A2 (n - (k + 1)) dc (xs.drop ((k + 1) * 4)) (by rw [hz1, hdl]) (fun j u hj => by
      have hjl := (List.getElem?_eq_some_iff.1 hj).1
      rw [hA2 (by omega), Addr.add_lit]
      exact hcell j u hj) (fun u hu => h1c u (List.mem_of_mem_drop hu)) (by omega) (by rw [hz1, hdl]; omega)
    rw [hz1, hC1, show k + (n - (k + 1)) = n - 1 by omega] at h
    exact h
  have hclr : ∀ (W : World), W.heap = (w.drew.setRow g C1.toArray).heap → ∀ ty dc, (Builtin.clear_ #[57] ty #[.slice (some ⟨g, (n - 1) * 4, none⟩) 1 dc]).run Tryz.prog W = .ok (.tuple #[]) (W.setRow g (C1.take ((n - 1) * 4) ++ zeroR ++ C1.drop ((n - 1) * 4 + 4)).toArray) := fun W hW ty dc => by
    have hg1 : W.heap[g]? = some (.cells C1.toArray 74 (0, 0)) := by rw [hW]; exact setRow_heap w.drew g C _ _ _ hg
    exact run_clear_one W g ((n - 1) * 4) dc C1.toArray hg1 (by simp only [List.size_toArray, s1]; omega) ty
  have HFIN : Hid (∃ C' : Array Value, C'.size = c * 4 ∧ C'.toList.take ((n - 1) * 4) = xs.take (k * 4) ++ xs.drop ((k + 1) * 4) ∧ (w.drew.setRow g C1.toArray).setRow g (C1.take ((n - 1) * 4) ++ zeroR ++ C1.drop ((n - 1) * 4 + 4)).toArray = w.drew.setRow g C') := Lib.hid ⟨_, by simpa using s2, by simpa using s3, setRow_setRow _ _ _ _⟩
  have hw1 : IntKind.i64.wrap ((k : Int) + 1) = (k : Int) + 1 := by rw [IntKind.wrap_i64]; omega
  have hb1 : (0 : Int) ≤ (k : Int) + 1 := by omega
  have htn : ((k : Int) + 1).toNat = k + 1 := by omega
  have hkn : (k : Int) + 1 ≤ (n : Int) := by omega
  have hkn2 : k + 1 ≤ n := by omega
  have hkk : (k : Int) ≤ (k : Int) + 1 := by omega
  have hki : k ≤ n := by omega
  have hkc0 : k ≤ c := by omega
  have hkc1 : k + 1 ≤ c := by omega
  have hkc2 : (k : Int) + 1 ≤ (c : Int) := by omega
  have hne : ¬ ((k : Int) = (k : Int) + 1) := by omega
  have hbc : ¬ (c = k) := by omega
  have hbn : ¬ (c = n - 1) := by omega
  have hn1 : n - (n - 1) = 1 := by omega
  have hn2 : n - 1 ≤ n := by omega
  have hn3 : n - 1 ≤ c := by omega
  have hclr' := hclr _ rfl
  have HAP0 : Hid (c = k + 1 → ∀ ty, (Builtin.append_ #[57, 57] ty #[.slice (some ⟨g, 0, none⟩) k c, .slice (some ⟨g, 0, none⟩) 0 0]).run Tryz.prog w.drew = .ok (.slice (some ⟨g, 0, none⟩) k c) (w.drew.setRow g C1.toArray)) := Lib.hid (fun hcc ty => by
    have h := hap ⟨g, 0, none⟩ (fun h => by omega) ty 0
    rwa [show n - (k + 1) = 0 by omega, show n - 1 = k by omega] at h)
  clear s1 s2 s3 hC1 hdl hcell hxl hCl hxs hC hg hclr hi0 hz0 hz1 hz2
  by_cases hkc : c = k + 1
  · have HA0 := Lib.hid (HAP0.out hkc)
    clear HAP0 hap
    subst hkc
    obtain rfl : n = k + 1 := by omega
    have hf := HFIN.out
    simp only [Nat.add_sub_cancel, List.append_assoc] at hf
    have HF := Lib.hid hf; clear hf HFIN
    simp only [Nat.add_sub_cancel, List.append_assoc] at hclr'
    go_enter Tryz.func48, Tryz.ntmps48
    go_wp2
    go_region_law (refine step_append_runI rfl _ _ 57 57 rfl (.slice (some ⟨g, 0, none⟩) k (k + 1)) (.slice (some ⟨g, 0, none⟩) 0 0) (by simp [Act.eval, Act.put]) (by simp [Act.eval, Act.put]) (HA0.out _) ?_)
    go_wp2
    go_ret
    exact ⟨rfl, HF.out⟩
  · go_enter Tryz.func48, Tryz.ntmps48
    go_wp2
    go_region_law (refine step_append_runI rfl _ _ 57 57 rfl (.slice (some ⟨g, 0, none⟩) k c) (.slice (some ⟨g, (k + 1) * 4, none⟩) (n - (k + 1)) (c - (k + 1))) (by simp [Act.eval, Act.put]) (by simp [Act.eval, Act.put]) (hap _ (fun _ => rfl) _ _) ?_)
    go_wp2
    go_ret
    have hf := HFIN.out
    rw [List.append_assoc] at hf
    exact ⟨rfl, hf⟩
end Go.Proofs.YtpenejigebkkmaaGreat

namespace Go.Proofs.YtpenejigebkkmaaGreat
open Go.RowKit Spm
set_option linter.unusedVariables false
set_option linter.unusedSimpArgs false

theorem erase_rows (Q : List RowP) (k : Nat) : (Q.flatMap rgC).take (k * 4) ++ (Q.flatMap rgC).drop ((k + 1) * 4) = (Q.eraseIdx k).flatMap rgC := by
  rw [rows_take, rows_drop, List.eraseIdx_eq_take_drop_succ, List.flatMap_append]

theorem Spc.unmap {ts : TypeId} {w w1 : World} {a g c : Nat} {v : Value} {Q : List RowP} {k : Nat} {C : Array Value} (h : Spc ts 74 w a v Q) (hk : k < Q.length) (hb : Below w.heap.size w w1) (hg : w.heap.size ≤ g)
    (hrow : w1.heap[g]? = some (.cells C 74 (0, 0))) (hC : C.size = c * 4) (hnc : Q.length ≤ c) (hcm : c ≤ maxLen) (hxs : C.toList.take ((Q.length - 1) * 4) = (Q.flatMap rgC).take (k * 4) ++ (Q.flatMap rgC).drop ((k + 1) * 4)) :
    Spc ts 74 (w1.setCell ⟨a, 0, none⟩ (.slice (some ⟨g, 0, none⟩) (Q.length - 1) c)) a (.slice (some ⟨g, 0, none⟩) (Q.length - 1) c) (Q.eraseIdx k) ∧ ∀ x ∈ foot a (.slice (some ⟨g, 0, none⟩) (Q.length - 1) c) (Q.eraseIdx k), x ∈ foot a v Q ∨ w.heap.size ≤ x := by
  have hal := h.box.lt
  have hlen : (Q.eraseIdx k).length = Q.length - 1 := List.length_eraseIdx_of_lt hk
  have hsub : ∀ x ∈ Q.eraseIdx k, x ∈ Q := fun x hx => List.mem_of_mem_eraseIdx hx
  have hm : ∀ x ∈ (Q.eraseIdx k).map (fun q : RowP => q.2.1), x ∈ foot a v Q := fun x hx => by
    obtain ⟨q, hq, rfl⟩ := List.mem_map.1 hx
    exact foot_q (hsub q hq)
  have hnd := h.nd
  unfold foot at hnd
  obtain ⟨n1, n2⟩ := List.nodup_cons.1 hnd
  obtain ⟨n3, n4, n5⟩ := List.nodup_append.1 n2
  refine ⟨⟨?_, ?_, ?_, ?_⟩, ?_⟩
  · have hba : Blk w1 a ts #[v] := (hb.block a hal).trans h.box
    have := Blk.set hba 0 (.slice (some ⟨g, 0, none⟩) (Q.length - 1) c)
    simpa using this
  · rw [hlen, ← erase_rows]
    refine ⟨by rw [erase_rows, rows_len, hlen], .inr ⟨g, c, C, rfl, Nat.zero_le _, ?_, by omega, hcm, hC, hxs⟩⟩
    rw [Below.heap_setCell _ _ _ _ (by simp only; omega)]
    exact hrow
  · intro x hx
    refine owns_block (h.each x (hsub x hx)) (fun b hbb => ?_)
    simp [byV, Value.ownBlock] at hbb
    subst hbb
    rw [Below.heap_setCell _ _ _ _ (fun e => nodup_a h.nd (hsub x hx) e.symm)]
    exact hb.block _ (h.lt _ (foot_q (hsub x hx)))
  · unfold foot
    rw [List.nodup_cons]
    refine ⟨fun hx => ?_, ?_⟩
    · rcases List.mem_append.1 hx with hx | hx
      · simp [Value.ownBlock] at hx; omega
      · obtain ⟨q, hq, e⟩ := List.mem_map.1 hx
        exact nodup_a h.nd (hsub q hq) e.symm
    · rw [List.nodup_append]
      refine ⟨by simp [Value.ownBlock], n4.sublist ((List.eraseIdx_sublist Q k).map _), fun x hx y hy e => ?_⟩
      have hxg : x = g := by simpa [Value.ownBlock] using hx
      subst hxg
      subst e
      have := h.lt _ (hm _ hy)
      omega
  · intro x hx
    unfold foot at hx
    rcases List.mem_cons.1 hx with rfl | hx
    · exact .inl foot_a
    · rcases List.mem_append.1 hx with hx | hx
      · have : x = g := by simpa [Value.ownBlock] using hx
        exact .inr (by omega)
      · exact .inl (hm x hx)

set_option maxRecDepth 100000 in
set_option maxHeartbeats 1000000 in
theorem unmap_any (a : Nat) (F : Nat → Prop) (L : List Rg) (hok : Ok L) (at_ : Int) (w : World) (h : PSp w a F L) : Calls Tryz.prog 23 #[.pointer (some ⟨a, 0, none⟩), .int .i64 at_] w (SetsE a F (unmapS L at_) w) := by
  have c2 := find_any a F L at_ w h
  by_cases hf : findS L at_ < L.length
  · have e : unmapS L at_ = (L.eraseIdx (findS L at_), 0) := by unfold unmapS; rw [if_pos hf]
    rw [e]
    have e1 : findI L at_ = findS L at_ := by unfold findI; rw [if_pos hf]
    have e2 : findE L at_ = 0 := by unfold findE; rw [if_pos hf]
    rw [e1, e2] at c2
    have C2 := Lib.hid c2; clear c2 e1 e2 e
    obtain ⟨v, Q, hs, rfl, hF⟩ := h
    have hqn : Q.length ≤ 67108864 := by have := hok.len; simp at this; omega
    generalize hk : findS (Q.map (·.1)) at_ = k at C2 hf ⊢
    rw [List.length_map] at hf
    have hm' : (Q.map (·.1)).eraseIdx k = (Q.eraseIdx k).map (·.1) := by rw [List.eraseIdx_eq_take_drop_succ, List.eraseIdx_eq_take_drop_succ, List.map_append, List.map_take, List.map_drop]
    rw [hm']
    obtain ⟨A, cap, rfl, hc0, hcap, hm, hrow⟩ := hs.cells
    obtain ⟨q, hq⟩ : ∃ q, Q[k]? = some q := ⟨Q[k], List.getElem?_eq_getElem hf⟩
    obtain ⟨g, rfl, hg, hcell⟩ := hrow k q hq
    have hbox := hs.box.lt
    have HB : Hid (Blk w a 59 #[.slice (some ⟨g, 0, none⟩) Q.length cap]) := Lib.hid hs.box
    have HCLN : Hid (∀ w1, Below w.heap.size w w1 → Calls Tryz.prog 49 #[.slice (some ⟨g, 0, none⟩) Q.length cap] w1 fun e w' => ∃ v', e = .returned v' ∧ w'.ownsRow w1.heap.size 74 4 v' Q.length (Q.flatMap rgC) ∧ v' ≠ .slice none 0 0 ∧ Below w1.heap.size w1 w') := Lib.hid (fun w1 hb =>
      cloneR_any g 0 Q.length cap (Q.flatMap rgC) w1 (rows_len Q) (by omega) (fun j u hj => by
        have h1 := hs.row.cells (g := g) rfl j u hj
        rw [Addr.add_lit] at h1
        exact (hb.cell (p := ⟨g, 0 + j, none⟩) hg).trans h1) (rows_one Q))
    have HF : Hid (∀ (w1 : World) (g' c : Nat) (C : Array Value), Below w.heap.size w w1 → w.heap.size ≤ g' → w1.heap[g']? = some (.cells C 74 (0, 0)) → C.size = c * 4 → Q.length ≤ c → c ≤ maxLen → C.toList.take ((Q.length - 1) * 4) = (Q.flatMap rgC).take (k * 4) ++ (Q.flatMap rgC).drop ((k + 1) * 4) →
        SetsE a F ((Q.eraseIdx k).map (·.1), 0) w (.returned (.int .i64 0)) (w1.setCell ⟨a, 0, none⟩ (.slice (some ⟨g', 0, none⟩) (Q.length - 1) c))) := Lib.hid (fun w1 g' c C hb h1 h2 h3 h4 h5 h6 => by
      obtain ⟨s1, s2⟩ := hs.unmap hf hb h1 h2 h3 h4 h5 h6
      exact ⟨rfl, ⟨_, _, s1, rfl, fun x hx => by rcases s2 x hx with h | h; exact .inl (hF x h); exact .inr h⟩, (Keeps.of_below hb).setCell (.inl (hF a foot_a)) _⟩)
    have HDEL : Hid (∀ (w2 : World) (g' c : Nat) (C : Array Value), w2.heap[g']? = some (.cells C 74 (0, 0)) → C.size = c * 4 → Q.length ≤ c → c ≤ maxLen → C.toList.take (Q.length * 4) = Q.flatMap rgC → Calls Tryz.prog 48 #[.slice (some ⟨g', 0, none⟩) Q.length c, .int .i64 k, .int .i64 ((k : Int) + 1)] w2 fun e w' =>
      e = .returned (.slice (some ⟨g', 0, none⟩) (Q.length - 1) c) ∧ ∃ C', C'.size = c * 4 ∧ C'.toList.take ((Q.length - 1) * 4) = (Q.flatMap rgC).take (k * 4) ++ (Q.flatMap rgC).drop ((k + 1) * 4) ∧ w' = (w2.drew).setRow g' C') := Lib.hid (fun w2 g' c C h1 h2 h3 h4 h5 =>
      delete_walk g' Q.length c k C (Q.flatMap rgC) w2 hf h3 (by unfold maxLen at h4; omega) h1 h2 h5 (rows_one Q))
    unfold maxLen at hm
    have hkm : (k : Int) + 1 ≤ 9223372036854775807 := by omega
    clear hq hcell hrow hs hF hk hm' hok hg
    have HC0 := Lib.hid hc0; clear hc0
    go_enter Tryz.func23, Tryz.ntmps23
    go_wp2_with fail
    refine (C2.out).mono ?_
    rintro e w1 ⟨rfl, h1⟩
    have b0 : w1.cell? ⟨a, 0, none⟩ = some (.slice (some ⟨g, 0, none⟩) Q.length cap) := (h1.cell (p := ⟨a, 0, none⟩) hbox).trans HC0.out
    have H1 := Lib.hid h1; clear h1
    go_wp2_with fail
    refine (HCLN.out _ H1.out).mono ?_
    rintro e w2 ⟨v', rfl, hown, hne, h2⟩
    obtain ⟨g', c', C, rfl, hg', hC, hnc, hcm, hcs, htk⟩ : ∃ g' c' C, v' = .slice (some ⟨g', 0, none⟩) Q.length c' ∧ w1.heap.size ≤ g' ∧ w2.heap[g']? = some (.cells C 74 (0, 0)) ∧ Q.length ≤ c' ∧ c' ≤ maxLen ∧ C.size = c' * 4 ∧ C.toList.take (Q.length * 4) = Q.flatMap rgC := by
      rcases hown.2 with ⟨h3, h4⟩ | ⟨g', cap', cur, rfl, hb, hgg, hl, hmx, hs, ht⟩
      · omega
      · exact ⟨g', cap', cur, rfl, hb, hgg, hl, hmx, hs, ht⟩
    have HD := Lib.hid (HDEL.out w2 g' c' C hC hcs hnc hcm htk)
    have H2 : Hid (Below w.heap.size w w2) := Lib.hid (H1.out.trans (h2.mono H1.out.size))
    have hg2 : w.heap.size ≤ g' := Nat.le_trans H1.out.size hg'
    have HK := Lib.hid (And.intro hC (And.intro hnc (And.intro hcm hg2)))
    clear hown hne h2 b0 hC hcs htk hnc hcm hg' hg2
    go_wp2_with fail
    refine (HD.out).mono ?_
    rintro e w3 ⟨rfl, C', hcs', htk', rfl⟩
    have hB3 : Below w.heap.size w ((w2.drew).setRow g' C') := by
      refine H2.out.trans ?_
      refine ⟨rfl, rfl, rfl, by rw [setRow_size]; exact Nat.le_refl _, fun j hj => ?_⟩
      rw [setRow_other _ _ _ _ (by have := HK.out.2.2.2; omega)]
      rfl
    have HFF := Lib.hid (HF.out _ g' c' C' hB3 HK.out.2.2.2 (setRow_heap w2.drew g' C _ _ _ HK.out.1) hcs' HK.out.2.1 HK.out.2.2.1 htk')
    have hBa : Blk ((w2.drew).setRow g' C') a 59 #[.slice (some ⟨g, 0, none⟩) Q.length cap] := HB.out.stay hB3 hbox
    clear hB3 hcs' htk'
    generalize (w2.drew).setRow g' C' = w3 at HFF hBa ⊢
    have b1 := hBa.cell 0
    have b2 := hBa.free 0
    go_wp2
    go_ret
    exact HFF.out
  · have e : unmapS L at_ = (L, 50) := by unfold unmapS; rw [if_neg hf]
    rw [e]
    have e1 : findI L at_ = 0 := by unfold findI; rw [if_neg hf]
    have e2 : findE L at_ = 50 := by unfold findE; rw [if_neg hf]
    rw [e1, e2] at c2
    have C2 := Lib.hid c2
    have H := Lib.hid h
    clear c2 e1 e2 e h hf hok
    go_enter Tryz.func23, Tryz.ntmps23
    go_wp2_with fail
    refine (C2.out).mono ?_
    rintro e w1 ⟨rfl, h1⟩
    have H1 := Lib.hid h1; clear h1
    go_wp2
    go_ret
    exact SetsE.same H.out H1.out
end Go.Proofs.YtpenejigebkkmaaGreat

namespace Go.Proofs.YtpenejigebkkmaaGreat
open Go.RowKit Spm
set_option linter.unusedVariables false
set_option linter.unusedSimpArgs false

theorem Spm.Ok.unmap {L : List Rg} (h : Ok L) (at_ : Int) : Ok (unmapS L at_).1 := by
  unfold unmapS
  split
  · exact ⟨fun r hr => h.each r (List.mem_of_mem_eraseIdx hr), h.srt.sublist (List.eraseIdx_sublist _ _)⟩
  · exact h

theorem pw_get {α : Type} {R : α → α → Prop} {L : List α} (h : L.Pairwise R) {i j : Nat} {x y : α} (hx : L[i]? = some x) (hy : L[j]? = some y) (hij : i < j) : R x y := by
  obtain ⟨hi, ei⟩ := List.getElem?_eq_some_iff.1 hx
  obtain ⟨hj, ej⟩ := List.getElem?_eq_some_iff.1 hy
  have := List.pairwise_iff_getElem.1 h i j hi hj hij
  rwa [ei, ej] at this

theorem Spm.Ok.modify {L : List Rg} (h : Ok L) (k : Nat) (f : Rg → Rg) (hf : ∀ r, L[k]? = some r → RgOk (f r) ∧ (f r).at_ = r.at_ ∧ (f r).sz = r.sz) : Ok (L.modify k f) := by
  have hget : ∀ (i : Nat) (x : Rg), (L.modify k f)[i]? = some x → ∃ y : Rg, L[i]? = some y ∧ RgOk x ∧ x.at_ = y.at_ ∧ x.sz = y.sz := by
    intro i x hx
    rw [List.getElem?_modify] at hx
    cases hy : L[i]? with
    | none => rw [hy] at hx; simp at hx
    | some y =>
      rw [hy] at hx
      by_cases hik : k = i
      · subst hik
        have : f y = x := by simpa using hx
        subst this
        exact ⟨y, rfl, hf y hy⟩
      · have : y = x := by simpa [hik] using hx
        subst this
        exact ⟨y, rfl, h.each y (List.mem_of_getElem? hy), rfl, rfl⟩
  refine ⟨fun r hr => ?_, ?_⟩
  · obtain ⟨i, hi⟩ := List.mem_iff_getElem?.1 hr
    obtain ⟨y, _, h2, _⟩ := hget i r hi
    exact h2
  · rw [List.pairwise_iff_getElem]
    intro i j hi hj hij
    obtain ⟨x, hx, _, a1, a2⟩ := hget i _ (List.getElem?_eq_getElem hi)
    obtain ⟨y, hy, _, b1, b2⟩ := hget j _ (List.getElem?_eq_getElem hj)
    have := pw_get h.srt hx hy hij
    unfold Apart at this ⊢
    rw [a1, a2, b1]
    exact this

theorem Spm.Ok.protect {L : List Rg} (h : Ok L) (at_ p : Int) : Ok (protectS L at_ p).1 := by
  unfold protectS
  split
  · exact h
  · split
    · refine h.modify _ _ (fun r hr => ⟨?_, rfl, rfl⟩)
      have hr := h.each r (List.mem_of_getElem? hr)
      exact ⟨hr.lo, hr.al, hr.sal, hr.slo, hr.shi, hr.hi, by simp only; omega, by simp only; omega, hr.len⟩
    · exact h

theorem over_len' (l b : List UInt8) (o : Nat) (h : o + b.length ≤ l.length) : (over l o b).length = l.length := by unfold over; simp; omega

theorem Spm.Ok.set {L : List Rg} (h : Ok L) (at_ : Int) (b : List UInt8) (p : Int) : Ok (setS L at_ b p).1 := by
  unfold setS
  split
  · exact h
  · split
    · exact h
    · rename_i hE
      have hE' : partS L at_ b.length p = 0 := by simpa using hE
      refine h.modify _ _ (fun r hr => ⟨?_, rfl, rfl⟩)
      have ho := h.each r (List.mem_of_getElem? hr)
      have hl : (over r.bs (at_ - r.at_).toNat b).length = r.bs.length := by
        obtain ⟨r', hr', h1, _, hin⟩ := partS_ok hE'
        rw [hr] at hr'
        cases hr'
        obtain ⟨h2, h3⟩ := inside_iff hin
        have := ho.len
        exact over_len' _ _ _ (by omega)
      exact ⟨ho.lo, ho.al, ho.sal, ho.slo, ho.shi, ho.hi, ho.p0, ho.p7, by simp only [hl]; exact ho.len⟩

theorem Spm.Ok.mapAt {L : List Rg} (h : Ok L) (at_ size p : Int) : Ok (mapAtS L at_ size p).1 := by
  by_cases hr : right size p = 0
  · by_cases hb : atBad at_ size
    · rw [mapAtS_b hr hb]; exact h
    · cases hm : meets L at_ (up size)
      · rw [mapAtS_ok hr hb hm]
        obtain ⟨z1, z2, z3, z4⟩ := right_eq hr
        obtain ⟨u1, u2, u3, u4⟩ := up_ge size z1
        have u5 := up_le size z1 z2
        unfold atBad at hb
        unfold meets at hm
        simp only [Bool.or_eq_false_iff, Bool.and_eq_false_iff, decide_eq_false_iff_not] at hm
        obtain ⟨m1, m2⟩ := hm
        generalize hk : insP at_ L = k at m1 m2
        have hkl : k ≤ L.length := by rw [← hk]; exact insP_le _ _
        have hlen : ((zeros (up size)).length : Int) = up size := by unfold zeros; simp; omega
        have hbefore : ∀ i x, L[i]? = some x → i < k → x.at_ + x.sz ≤ at_ := by
          intro i x hx hi
          obtain ⟨j, rfl⟩ : ∃ j, k = j + 1 := ⟨k - 1, by omega⟩
          rw [Nat.add_sub_cancel, List.getD_eq_getElem?_getD] at m1
          obtain ⟨y, hy⟩ : ∃ y, L[j]? = some y := ⟨L[j]'(by omega), List.getElem?_eq_getElem (by omega)⟩
          rw [hy] at m1
          have hyb : y.at_ < at_ := insP_before at_ L j y hy (by rw [hk]; omega)
          have hyE : y.at_ + y.sz ≤ at_ := by
            rcases m1 with m1 | m1
            · omega
            · simp only [Option.getD_some] at m1; omega
          rcases Nat.lt_or_ge i j with h1 | h1
          · have h2 := pw_get h.srt hx hy h1
            unfold Apart at h2
            omega
          · have : i = j := by omega
            subst this
            rw [hy] at hx
            cases hx
            exact hyE
        have hafter : ∀ i x, L[i]? = some x → k ≤ i → at_ + up size ≤ x.at_ := by
          intro i x hx hi
          have hil := (List.getElem?_eq_some_iff.1 hx).1
          obtain ⟨y, hy⟩ : ∃ y, L[k]? = some y := ⟨L[k]'(by omega), List.getElem?_eq_getElem (by omega)⟩
          rw [List.getD_eq_getElem?_getD, hy] at m2
          have hyE : at_ + up size ≤ y.at_ := by
            rcases m2 with m2 | m2
            · omega
            · simp only [Option.getD_some] at m2; omega
          rcases Nat.lt_or_ge k i with h1 | h1
          · have h2 := pw_get h.srt hy hx h1
            have h3 := (h.each y (List.mem_of_getElem? hy)).slo
            unfold Apart at h2
            omega
          · have : i = k := by omega
            subst this
            rw [hy] at hx
            cases hx
            exact hyE
        have htake : ∀ x ∈ L.take k, x.at_ + x.sz ≤ at_ ∧ x ∈ L := fun x hx => by
          obtain ⟨i, hi⟩ := List.mem_iff_getElem?.1 hx
          rw [List.getElem?_take] at hi
          split at hi
          · exact ⟨hbefore i x hi (by assumption), List.mem_of_getElem? hi⟩
          · cases hi
        have hdrop : ∀ x ∈ L.drop k, at_ + up size ≤ x.at_ ∧ x ∈ L := fun x hx => by
          obtain ⟨i, hi⟩ := List.mem_iff_getElem?.1 hx
          rw [List.getElem?_drop] at hi
          exact ⟨hafter _ x hi (by omega), List.mem_of_getElem? hi⟩
        refine ⟨fun r hr => ?_, ?_⟩
        · rcases List.mem_append.1 hr with hr | hr
          · exact h.each r (htake r hr).2
          · rcases List.mem_cons.1 hr with rfl | hr
            · exact ⟨by simp only; omega, by simp only; omega, u2, u3, u5, by simp only; omega, z3, z4, hlen⟩
            · exact h.each r (hdrop r hr).2
        · rw [List.pairwise_append]
          refine ⟨h.srt.sublist (List.take_sublist _ _), List.pairwise_cons.2 ⟨fun x hx => ?_, h.srt.sublist (List.drop_sublist _ _)⟩, fun x hx y hy => ?_⟩
          · exact (hdrop x hx).1
          · have h1 := (htake x hx).1
            rcases List.mem_cons.1 hy with rfl | hy
            · exact h1
            · have h2 := (hdrop y hy).1
              unfold Apart
              omega
      · rw [mapAtS_m hr hb hm]; exact h
  · rw [mapAtS_r hr]; exact h

theorem Spm.Ok.map {L : List Rg} (h : Ok L) (size p : Int) : Ok (mapS L size p).1 := by
  unfold mapS
  split
  · exact h
  · split
    · exact h
    · exact h.mapAt _ _ _
end Go.Proofs.YtpenejigebkkmaaGreat

namespace Go.Proofs.YtpenejigebkkmaaGreat
open Go.RowKit Spm
set_option linter.unusedVariables false
set_option linter.unusedSimpArgs false

/-- A space that the law itself made: all of it lies from block B on; below B all is as it was in w. -/
structure Mine (B : Nat) (w wr : World) (a : Nat) (L : List Rg) : Prop where
  sp : PSp wr a (fun k => B ≤ k) L
  bel : Below B w wr
  le : B ≤ wr.heap.size
  ok : Ok L
theorem Mine.sets {B : Nat} {w wr w' : World} {a : Nat} {L : List Rg} {r : List Rg × Int} {e : Ending} (h : Mine B w wr a L) (hs : SetsE a (fun k => B ≤ k) r wr e w') (hok : Ok r.1) : Mine B w w' a r.1 :=
  ⟨hs.2.1.mono (fun k hk _ => by rcases hk with hk | hk; exact hk; have := h.le; omega), h.bel.trans (hs.2.2.below h.le (fun k hk => hk)), Nat.le_trans h.le hs.2.2.size, hok⟩
theorem Mine.sets2 {B : Nat} {w wr w' : World} {a : Nat} {L : List Rg} {r : List Rg × Int × Int} {e : Ending} (h : Mine B w wr a L) (hs : Sets2 a (fun k => B ≤ k) r wr e w') (hok : Ok r.1) : Mine B w w' a r.1 :=
  ⟨hs.2.1.mono (fun k hk _ => by rcases hk with hk | hk; exact hk; have := h.le; omega), h.bel.trans (hs.2.2.below h.le (fun k hk => hk)), Nat.le_trans h.le hs.2.2.size, hok⟩
theorem Mine.stay {B : Nat} {w wr w' : World} {a : Nat} {L : List Rg} (h : Mine B w wr a L) (hb : Below wr.heap.size wr w') : Mine B w w' a L :=
  ⟨h.sp.stay hb, h.bel.trans (hb.mono h.le), Nat.le_trans h.le hb.size, h.ok⟩
theorem Mine.new {B : Nat} {w wr w' : World} (hbel : Below B w wr) (hle : B ≤ wr.heap.size) (h1 : PSp w' wr.heap.size (fun k => wr.heap.size ≤ k) []) (h2 : Below wr.heap.size wr w') : Mine B w w' wr.heap.size [] :=
  ⟨h1.mono (fun k hk _ => by omega), hbel.trans (h2.mono hle), Nat.le_trans hle h2.size, Ok.nil⟩

/-! The contracts, at a space of the law's own. -/
section
variable {B : Nat} {w wr : World} {a : Nat} {L : List Rg}
def MineE (B : Nat) (w : World) (a : Nat) (r : List Rg × Int) (e : Ending) (w' : World) : Prop := e = .returned (.int .i64 r.2) ∧ Mine B w w' a r.1
def Mine2 (B : Nat) (w : World) (a : Nat) (r : List Rg × Int × Int) (e : Ending) (w' : World) : Prop := e = .returned (.tuple #[.int .i64 r.2.1, .int .i64 r.2.2]) ∧ Mine B w w' a r.1
theorem my_map (h : Mine B w wr a L) (size p : Int) : Calls Tryz.prog 43 #[.pointer (some ⟨a, 0, none⟩), .int .i64 size, .int .i64 p] wr (Mine2 B w a (mapS L size p)) :=
  (map_any a _ L h.ok size p wr h.sp).mono fun _ _ hs => ⟨hs.1, h.sets2 hs (h.ok.map _ _)⟩
theorem my_mapAt (h : Mine B w wr a L) (at_ size p : Int) : Calls Tryz.prog 63 #[.pointer (some ⟨a, 0, none⟩), .int .i64 at_, .int .i64 size, .int .i64 p] wr (MineE B w a (mapAtS L at_ size p)) :=
  (mapAt_any a _ L h.ok at_ size p wr h.sp).mono fun _ _ hs => ⟨hs.1, h.sets hs (h.ok.mapAt _ _ _)⟩
theorem my_unmap (h : Mine B w wr a L) (at_ : Int) : Calls Tryz.prog 23 #[.pointer (some ⟨a, 0, none⟩), .int .i64 at_] wr (MineE B w a (unmapS L at_)) :=
  (unmap_any a _ L h.ok at_ wr h.sp).mono fun _ _ hs => ⟨hs.1, h.sets hs (h.ok.unmap _)⟩
theorem my_gap (h : Mine B w wr a L) (size : Int) : Calls Tryz.prog 62 #[.pointer (some ⟨a, 0, none⟩), .int .i64 size] wr fun e w' => e = .returned (.tuple #[.int .i64 (gapS L size).1, .int .i64 (gapS L size).2]) ∧ Mine B w w' a L :=
  (gap_any a _ L h.ok size wr h.sp).mono fun _ _ hs => ⟨hs.1, h.stay hs.2⟩
end

def wk1 : List Rg := (mapS [] 1 3).1
def wk2 : List Rg := (mapS wk1 65 1).1
def wk3 : List Rg := (unmapS wk2 4096).1
theorem wk_1 : (mapS [] 1 3).2.1 = 4096 ∧ (mapS [] 1 3).2.2 = 0 := by decide +kernel
theorem wk_2 : (mapS wk1 65 1).2.1 = 4160 ∧ (mapS wk1 65 1).2.2 = 0 := by decide +kernel
theorem wk_3 : (unmapS wk2 4096).2 = 0 := by decide +kernel
theorem wk_4 : (gapS wk3 65).1 = 4288 ∧ (gapS wk3 65).2 = 0 := by decide +kernel
theorem wk_5 : (setS wk3 4160 (bytesS 1) 2).2 = 52 ∧ (setS wk3 4160 (bytesS 1) 2).1 = wk3 := by decide +kernel
theorem wk_6 : (setS wk3 4160 (bytesS 1) 0).2 = 0 := by decide +kernel

end Go.Proofs.YtpenejigebkkmaaGreat
