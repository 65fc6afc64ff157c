/-
  Layer 5: Copy of the program.
  Conditions: none. (My own text.)
-/
import Derived.Test.YtblmppdfdihogaaSpk
import Derived.Test.YtblmppdfdihogaaSpd
import Derived.Test.YtblmppdfdihogaaSpq
import Derived.Deep.AppendLies
namespace Go.Proofs.Ytblmppdfdihogaa
open Go.RowKit Spm
set_option linter.unusedVariables false
set_option linter.unusedSimpArgs false

/-- One more region behind the others. -/
theorem Spc.push {ts tr : TypeId} {w w2 : World} {a g H : Nat} {v v' : Value} {Q : List RowP} {q : RowP} (h : Spc ts tr w a v Q) (hb : Bys w 0 (byV q) q.1.bs) (hfresh : q.2.1 ∉ foot a v Q)
    (h1 : w2.ownsRow 0 tr 4 v' (Q.length + 1) (Q.flatMap rgC ++ rgC q)) (hv' : v'.ownBlock = some g) (h2 : v.ownBlock = some g ∨ g = H) (hH : w.heap.size ≤ H)
    (h3 : Keeps (fun k => v.ownBlock = some k) w w2) :
    Spc ts tr (w2.setCell ⟨a, 0, none⟩ v') a v' (Q ++ [q]) ∧ (∀ k ∈ foot a v' (Q ++ [q]), k ∈ foot a v Q ∨ k = q.2.1 ∨ k = H) := by
  have hqlt : q.2.1 < w.heap.size := (hb.lt _ rfl).2
  have hga : g ≠ a := by
    rcases h2 with h2 | h2
    · exact fun e => nodup_av h.nd h2 e.symm
    · have := h.lt a foot_a; omega
  have hgq : g ≠ q.2.1 := by
    rcases h2 with h2 | h2
    · exact fun e => hfresh (e ▸ foot_v h2)
    · omega
  have hgQ : ∀ x ∈ Q, g ≠ x.2.1 := fun x hx => by
    rcases h2 with h2 | h2
    · exact fun e => nodup_v h.nd hx h2 e
    · have := h.lt _ (foot_q hx); omega
  have hqa : q.2.1 ≠ a := fun e => hfresh (e ▸ foot_a)
  have hqn : v.ownBlock ≠ some q.2.1 := fun e => hfresh (foot_v e)
  have f1 : (foot a v' (Q ++ [q])).Nodup := by
    have hnd := h.nd
    unfold foot at hnd ⊢
    rw [hv']
    obtain ⟨n1, n2⟩ := List.nodup_cons.1 hnd
    obtain ⟨n3, n4, n5⟩ := List.nodup_append.1 n2
    rw [List.nodup_cons]
    refine ⟨fun hm => ?_, ?_⟩
    · rcases List.mem_append.1 hm with hm | hm
      · have h5 : a = g := by simpa using hm
        exact hga h5.symm
      · rw [List.map_append] at hm
        rcases List.mem_append.1 hm with hm | hm
        · exact n1 (List.mem_append_right _ hm)
        · have h5 : a = q.2.1 := by simpa using hm
          exact hqa h5.symm
    · rw [List.nodup_append]
      refine ⟨by simp, ?_, fun x hx y hy e => ?_⟩
      · rw [List.map_append, List.nodup_append]
        refine ⟨n4, by simp, fun x hx y hy e => ?_⟩
        have hy' : y = q.2.1 := by simpa using hy
        obtain ⟨z, hz, rfl⟩ := List.mem_map.1 hx
        exact hfresh (by rw [← hy', ← e]; exact foot_q hz)
      · have hx' : x = g := by simpa using hx
        rw [List.map_append] at hy
        rcases List.mem_append.1 hy with hy | hy
        · obtain ⟨z, hz, rfl⟩ := List.mem_map.1 hy
          exact hgQ z hz (by rw [← hx', e])
        · have hy' : y = q.2.1 := by simpa using hy
          exact hgq (by rw [← hx', e, hy'])
  refine ⟨⟨?_, ?_, ?_, f1⟩, fun k hk => ?_⟩
  · have hba : Blk w2 a ts #[v] := h.box.keeps h3 (fun e => nodup_av h.nd e rfl)
    have := hba.set 0 v'
    simpa using this
  · rw [List.flatMap_append, List.length_append]
    refine owns_block (by simpa using h1) (fun k hk => Below.heap_setCell _ _ _ _ (fun e => ?_))
    rw [hv'] at hk
    exact hga ((Option.some.inj hk).trans e)
  · intro x hx
    have hkx : ∀ k, k < w.heap.size → k ≠ a → v.ownBlock ≠ some k → (w2.setCell ⟨a, 0, none⟩ v').heap[k]? = w.heap[k]? := fun k hk h4 h5 => (Below.heap_setCell _ _ _ _ h4).trans (h3.block k hk h5)
    rcases List.mem_append.1 hx with hx | hx
    · refine owns_block (h.each x hx) (fun k hk => ?_)
      have hk' : x.2.1 = k := by simpa [byV, Value.ownBlock] using hk
      subst hk'
      exact hkx _ (h.lt _ (foot_q hx)) (fun e => nodup_a h.nd hx e.symm) (fun e => nodup_v h.nd hx e rfl)
    · have hx' : x = q := by simpa using hx
      subst hx'
      refine owns_block hb (fun k hk => ?_)
      have hk' : x.2.1 = k := by simpa [byV, Value.ownBlock] using hk
      subst hk'
      exact hkx _ hqlt hqa hqn
  · unfold foot at hk
    rw [hv'] at hk
    rcases List.mem_cons.1 hk with rfl | hk
    · exact .inl foot_a
    · rcases List.mem_append.1 hk with hk | hk
      · have hk' : k = g := by simpa using hk
        subst hk'
        rcases h2 with h2 | h2
        · exact .inl (foot_v h2)
        · exact .inr (.inr h2)
      · rw [List.map_append] at hk
        rcases List.mem_append.1 hk with hk | hk
        · obtain ⟨z, hz, rfl⟩ := List.mem_map.1 hk
          exact .inl (foot_q hz)
        · exact .inr (.inl (by simpa using hk))

theorem owns_some {w : World} {base : Nat} {e : TypeId} {size n : Nat} {v : Value} {xs : List Value} (h : w.ownsRow base e size v n xs) (hv : v ≠ .slice none 0 0) : ∃ g c, v = .slice (some ⟨g, 0, none⟩) n c ∧ base ≤ g := by
  rcases h.2 with ⟨h1, _⟩ | ⟨g, cap, cur, hv', hb, _⟩
  · exact absurd h1 hv
  · exact ⟨g, cap, hv', hb⟩

set_option maxHeartbeats 1000000 in
theorem copy_any (a : Nat) (F : Nat → Prop) (L : List Rg) (hok : Ok L) (w : World) (h : PSp w a F L) : Calls Try.prog 22 #[.pointer (some ⟨a, 0, none⟩)] w fun e w' =>
    e = .returned (.pointer (some ⟨w.heap.size, 0, none⟩)) ∧ PSp w' w.heap.size (fun k => w.heap.size ≤ k) L ∧ Below w.heap.size w w' := by
  obtain ⟨v, Q, hs, rfl, hF⟩ := h
  obtain ⟨A, cap, rfl, hc0, hcap, hm, hrow⟩ := hs.cells
  have HR := Lib.hid hrow; clear hrow
  have HBY : Hid (∀ q ∈ Q, q.2.1 < w.heap.size ∧ q.1.bs.length ≤ q.2.2 ∧ q.2.2 ≤ maxLen ∧ ∀ j b, q.1.bs[j]? = some b → w.cell? ⟨q.2.1, j, none⟩ = some (byC b)) := Lib.hid (fun q hq => hs.bys hq)
  have HLEN : Hid (∀ q ∈ Q, q.1.bs.length ≤ 1048576) := Lib.hid (fun q hq => by
    have := hok.each q.1 (List.mem_map.2 ⟨q, hq, rfl⟩)
    have h1 := this.len; have h2 := this.shi; omega)
  have hbox := hs.box.lt
  have hqn : Q.length ≤ 67108864 := by have := hok.len; simp at this; omega
  clear hs hF hok
  unfold maxLen at hm
  obtain ⟨i0, hi, hz0, hz1, hz2⟩ := info_parts cloneR_info
  have HI := Lib.hid (And.intro hi (And.intro hz0 (And.intro hz1 hz2))); clear hi hz0 hz1 hz2
  go_enter Try.func22, Try.ntmps22
  go_wp2
  go_loopw [13] (fun i wr => ∃ k : Nat, k ≤ Q.length ∧ i = .int .i64 k ∧ Hid (PSp wr w.heap.size (fun b => w.heap.size ≤ b) ((Q.map (·.1)).take k)) ∧ Below w.heap.size w wr) (fun i _ => Q.length - (intOf i).toNat)
  case atStart => exact ⟨0, Nat.zero_le _, rfl, Lib.hid ⟨.slice none 0 0, [], ⟨Blk.new _ _ _, World.ownsRow_nil _ _ _ _, by simp, by simp [foot, Value.ownBlock]⟩, by simp, by simp [foot, Value.ownBlock]⟩, (Below.refl _ _).alloc (Nat.le_refl _) _⟩
  case round =>
    obtain ⟨k, hk, rfl, hown, hbel⟩ := hrel
    by_cases hlt : k < Q.length
    · obtain ⟨q, hq⟩ : ∃ q, Q[k]? = some q := ⟨Q[k], List.getElem?_eq_getElem hlt⟩
      obtain ⟨g, rfl, hg, hcell⟩ := HR.out k q hq
      have hx : (Q.map (·.1))[k]? = some q.1 := by rw [List.getElem?_map, hq]; rfl
      have HX := Lib.hid hx; clear hx
      have hby := HBY.out q (List.mem_of_getElem? hq)
      have hln := HLEN.out q (List.mem_of_getElem? hq)
      obtain ⟨⟨qa, qs, qp, qb⟩, qk, qc⟩ := q
      simp only at hby hln
      obtain ⟨b1, b2, b3, b4⟩ := hby
      unfold maxLen at b3
      have c0 : wr.cell? ⟨g, k * 4, none⟩ = some (.int .i64 qa) := (hbel.cell (p := ⟨g, k * 4, none⟩) hg).trans (hcell 0 _ rfl)
      have c1 : wr.cell? ⟨g, k * 4 + 1, none⟩ = some (.int .i64 qs) := (hbel.cell (p := ⟨g, k * 4 + 1, none⟩) hg).trans (hcell 1 _ rfl)
      have c2 : wr.cell? ⟨g, k * 4 + 2, none⟩ = some (.int .i64 qp) := (hbel.cell (p := ⟨g, k * 4 + 2, none⟩) hg).trans (hcell 2 _ rfl)
      have c3 : wr.cell? ⟨g, k * 4 + 3, none⟩ = some (.slice (some ⟨qk, 0, none⟩) qb.length qc) := (hbel.cell (p := ⟨g, k * 4 + 3, none⟩) hg).trans (hcell 3 _ rfl)
      clear hcell
      have HBL := Lib.hid hbel; clear hbel
      have hws : w.heap.size ≤ wr.heap.size := HBL.out.size
      have HC := Lib.hid (fun (W1 : World) (hb : Below wr.heap.size wr W1) => cloneB_any qk 0 qb.length qc (qb.map byC) W1 (by simp) (by omega) (fun j u hj => by
        rw [List.getElem?_map] at hj
        cases hxj : qb[j]? with
        | none => rw [hxj] at hj; cases hj
        | some x =>
          rw [hxj] at hj
          have hu : byC x = u := by simpa using hj
          subst hu
          rw [Nat.zero_add]
          exact (hb.cell (p := ⟨qk, j, none⟩) (by simp only; omega)).trans ((HBL.out.cell (p := ⟨qk, j, none⟩) b1).trans (b4 j x hxj))) (byC_one _))
      clear b4
      go_wp2_with fail
      refine (HC.out _ ((Below.refl _ _).alloc (Nat.le_refl _) _)).mono ?_
      rintro e w2 ⟨v2, rfl, hown2, hnn, hb2⟩
      obtain ⟨g2, k2, rfl, hg2⟩ := owns_some hown2 hnn
      have hg2' : wr.heap.size + 1 ≤ g2 := by simpa using hg2
      have hbx := (Blk.new wr 66 #[.int .i64 qa, .int .i64 qs, .int .i64 qp, .slice (some ⟨qk, 0, none⟩) qb.length qc]).keep hb2
      have hbx3 := hbx.set 3 (.slice (some ⟨g2, 0, none⟩) qb.length k2)
      have d3 := hbx.cell 3
      have f3 := hbx.free 3
      have hz2 : wr.heap.size + 1 ≤ w2.heap.size := by have := hb2.size; simpa using this
      obtain ⟨w3, hw3⟩ : ∃ w3, w2.setCell ⟨wr.heap.size, 3, none⟩ (.slice (some ⟨g2, 0, none⟩) qb.length k2) = w3 := ⟨_, rfl⟩
      have hz3 : w3.heap.size = w2.heap.size := by rw [← hw3]; simp [World.setCell]
      have hk3 : ∀ k, k ≠ wr.heap.size → w3.heap[k]? = w2.heap[k]? := fun k hk => by rw [← hw3]; exact Below.heap_setCell _ _ _ _ hk
      have hk3' : ∀ k, k < wr.heap.size → w3.heap[k]? = wr.heap[k]? := fun k hk => by
        rw [hk3 k (by omega), hb2.block k (by simp; omega), Below.heap_alloc _ _ _ hk]
      rw [hw3] at hbx3
      have hbel3 : Below wr.heap.size wr w3 := by rw [← hw3]; exact (((Below.refl _ _).alloc (Nat.le_refl _) _).trans (hb2.mono (by simp))).setCell (by simp) _
      obtain ⟨vc, Qc, hsc, hQc, hFc⟩ := hown.out
      have hsc3 := hsc.keep (w' := w3) (fun k hk => hk3' k (hsc.lt k hk))
      have hfr : g2 ∉ foot w.heap.size vc Qc := fun hm => by have := hsc.lt _ hm; omega
      have hby3 : Bys w3 0 (byV (⟨qa, qs, qp, qb⟩, g2, k2)) qb := by
        have h1 : Bys w2 0 (byV (⟨qa, qs, qp, qb⟩, g2, k2)) qb := owns_mono hown2 (Nat.zero_le _)
        exact owns_block h1 (fun k hk => by
          have hk' : g2 = k := by simpa [byV, Value.ownBlock] using hk
          subst hk'
          exact hk3 _ (by omega))
      have HG := Lib.hid (And.intro hsc3 (And.intro hfr (And.intro hby3 (And.intro hQc hFc))))
      have HB3 := Lib.hid hbel3
      have s0 := hsc3.box.cell 0
      have sf := hsc3.box.free 0
      have e0 := hbx3.cell 0
      have e1 := hbx3.cell 1
      have e2 := hbx3.cell 2
      have e3 := hbx3.cell 3
      have hz3' : wr.heap.size + 1 ≤ w3.heap.size := by omega
      have HW3 := Lib.hid hw3
      have D3 := Lib.hid d3
      clear hsc3 hfr hby3 hQc hFc hbel3 hbx hbx3 hown2 hb2 hsc hk3 hk3' hz3 hw3 hnn hg2 hown c0 c1 c2 c3 d3
      simp at e0 e1 e2 e3 s0
      have d3 := D3.out
      simp at d3
      go_wp2_with fail
      rw [HW3.out]
      clear d3 f3 hz2
      have HX0 : Hid (Qc.length = k) := Lib.hid (by have h := HG.out.2.2.2.1; have h2 := congrArg List.length h; simp at h2; omega)
      have HB4 : Hid (∀ (o : Obj) (W w4 : World), W.heap = (w3.alloc o).heap → W.grownBy w4 vc.ownBlock → w4.cell? ⟨w.heap.size, 0, none⟩ = some vc ∧ w4.frozen? ⟨w.heap.size, 0, none⟩ = false) := Lib.hid (fun o W w4 hW hg => by
        have hb0 : Blk W w.heap.size 64 #[vc] := (congrArg (fun h => h[w.heap.size]?) hW).trans (HG.out.1.box.alloc o)
        have hb4 := hb0.keeps (Keeps.of_grown hg) (fun e => nodup_av HG.out.1.nd e rfl)
        exact ⟨by have := hb4.cell 0; simpa using this, hb4.free 0⟩)
      have HSN : Hid ((Q.map (·.1)).take (k + 1) = (Q.map (·.1)).take k ++ [⟨qa, qs, qp, qb⟩]) := Lib.hid (by
        obtain ⟨h1, h2⟩ := List.getElem?_eq_some_iff.1 HX.out
        rw [List.take_succ_eq_append_getElem h1, h2])
      have HFIN : Hid (∀ (o : Obj) (W w4 : World) (g4 c4 : Nat), (W.heap = (w3.alloc o).heap ∧ W.os = w3.os ∧ W.tape = w3.tape ∧ W.output = w3.output) → w4.ownsRow 0 66 4 (.slice (some ⟨g4, 0, none⟩) (Qc.length + 1) c4) (Qc.length + 1) (Qc.flatMap rgC ++ rgC (⟨qa, qs, qp, qb⟩, g2, k2)) →
          W.grownBy w4 vc.ownBlock → (vc.ownBlock = some g4 ∨ g4 = w3.heap.size + 1) → PSp (w4.setCell ⟨w.heap.size, 0, none⟩ (.slice (some ⟨g4, 0, none⟩) (Qc.length + 1) c4)) w.heap.size (fun b => w.heap.size ≤ b) ((Q.map (·.1)).take (k + 1)) ∧ Below w.heap.size w (w4.setCell ⟨w.heap.size, 0, none⟩ (.slice (some ⟨g4, 0, none⟩) (Qc.length + 1) c4))) := Lib.hid (fun o W w4 g4 c4 hWW hown4 hgrow hat4 => by
        obtain ⟨hW, hW1, hW2, hW3⟩ := hWW
        obtain ⟨i1, i2, i3, i4, i5⟩ := HG.out
        have hWk : ∀ b, b < w3.heap.size → W.heap[b]? = w3.heap[b]? := fun b hb => by rw [hW]; exact Below.heap_alloc _ _ _ hb
        have hWs : W.heap.size = w3.heap.size + 1 := by rw [hW]; simp
        have iW := i1.keep (w' := W) (fun b hb => hWk b (i1.lt b hb))
        have iB : Bys W 0 (byV (⟨qa, qs, qp, qb⟩, g2, k2)) qb := owns_block i3 (fun b hb => hWk b (i3.lt _ hb).2)
        obtain ⟨j1, j2⟩ := iW.push iB i2 hown4 rfl hat4 (by omega) (Keeps.of_grown hgrow)
        refine ⟨⟨_, _, j1, by rw [List.map_append, i4, HSN.out]; rfl, fun b hb => ?_⟩, ?_⟩
        · rcases j2 b hb with h1 | h1 | h1
          · exact i5 b h1
          · simp only at h1; omega
          · omega
        · have b1 : Below w.heap.size w w3 := HBL.out.trans (HB3.out.mono HBL.out.size)
          have b2 : Below w.heap.size w3 W := ⟨hW1, hW2, hW3, by omega, fun b hb => hWk b (by omega)⟩
          have b3 : Below w.heap.size W w4 := (Keeps.of_grown hgrow).below (by omega) (fun b hb => i5 b (foot_v hb))
          exact ((b1.trans b2).trans b3).setCell (by simp) _)
      have sal : ∀ (cs : Array Value), (w3.alloc (.cells cs 66)).cell? ⟨w.heap.size, 0, none⟩ = some vc := fun cs => Lib.cell?_alloc_some _ s0
      go_region_law (refine step_append_lies _ (by rfl) _ _ 62 (by rfl) 0 66 i0 (.agg #[.int .i64 0, .int .i64 0, .int .i64 0, .slice none 0 0]) 4 48 Try.underlying62 HI.out.1 HI.out.2.1 HI.out.2.2.1 HI.out.2.2.2 rfl (by decide) vc Qc.length (Qc.flatMap rgC) (by simp [Act.eval, Act.put]) (HG.out.1.row.alloc _) ⟨w3.heap.size, 0, none⟩ 1 1 (rgC (⟨qa, qs, qp, qb⟩, g2, k2)) (by simp [Act.eval, Act.put]) rfl (World.news_of_block (heap_alloc_new _ _)) (by intro u hu; simp [rgC] at hu; rcases hu with rfl | rfl | rfl | rfl <;> rfl) (by decide) (by unfold maxLen; have := HX0.out; omega) (by have := HX0.out; omega) (Nat.zero_le _) (w3.heap.size + 1) (by simp) ?_; intro g4 c4 w4 hown4 hgrow hat4 hlt4; obtain ⟨s4, f4⟩ := HB4.out _ _ _ (by rfl) hgrow)
      all_goals
        have RF := HFIN.out _ _ _ _ _ (by exact ⟨rfl, rfl, rfl, rfl⟩) hown4 hgrow hat4
        have R1 := Lib.hid RF.1
        have R2 := Lib.hid RF.2
        clear RF hown4 hgrow hat4 hlt4 s4 f4
        go_wp2
        go_roundw
        case rel => exact ⟨k + 1, by omega, by go_num, R1, R2.out⟩
        case measure => simp [intOf]; omega
    · have H1 : Hid (PSp wr w.heap.size (fun b => w.heap.size ≤ b) (Q.map (·.1))) := Lib.hid (by
        have h := hown.out
        rwa [List.take_of_length_le (by rw [List.length_map]; omega)] at h)
      go_wp2
      go_ret
      exact ⟨rfl, H1.out, hbel⟩
end Go.Proofs.Ytblmppdfdihogaa
