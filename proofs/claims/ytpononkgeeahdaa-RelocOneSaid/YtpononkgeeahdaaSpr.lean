/-
  Layer 5: Unmap of the program.
  Conditions: none. (My own text.)
-/
import Derived.Test.YtpononkgeeahdaaSpq
namespace Go.Proofs.Ytpononkgeeahdaa
open Go.RowKit Spm
set_option linter.unusedVariables false
set_option linter.unusedSimpArgs false

theorem erase_rows (Q : List RowP) (k : Nat) : (Q.flatMap rgC).take (k * 4) ++ (Q.flatMap rgC).drop ((k + 1) * 4) = (Q.eraseIdx k).flatMap rgC := by
  rw [rows_take, rows_drop, List.eraseIdx_eq_take_drop_succ, List.flatMap_append]

theorem Spc.unmap {ts : TypeId} {w w1 : World} {a g c : Nat} {v : Value} {Q : List RowP} {k : Nat} {C : Array Value} (h : Spc ts 67 w a v Q) (hk : k < Q.length) (hb : Below w.heap.size w w1) (hg : w.heap.size ≤ g)
    (hrow : w1.heap[g]? = some (.cells C 67 (0, 0))) (hC : C.size = c * 4) (hnc : Q.length ≤ c) (hcm : c ≤ maxLen) (hxs : C.toList.take ((Q.length - 1) * 4) = (Q.flatMap rgC).take (k * 4) ++ (Q.flatMap rgC).drop ((k + 1) * 4)) :
    Spc ts 67 (w1.setCell ⟨a, 0, none⟩ (.slice (some ⟨g, 0, none⟩) (Q.length - 1) c)) a (.slice (some ⟨g, 0, none⟩) (Q.length - 1) c) (Q.eraseIdx k) ∧ ∀ x ∈ foot a (.slice (some ⟨g, 0, none⟩) (Q.length - 1) c) (Q.eraseIdx k), x ∈ foot a v Q ∨ w.heap.size ≤ x := by
  have hal := h.box.lt
  have hlen : (Q.eraseIdx k).length = Q.length - 1 := List.length_eraseIdx_of_lt hk
  have hsub : ∀ x ∈ Q.eraseIdx k, x ∈ Q := fun x hx => List.mem_of_mem_eraseIdx hx
  have hm : ∀ x ∈ (Q.eraseIdx k).map (fun q : RowP => q.2.1), x ∈ foot a v Q := fun x hx => by
    obtain ⟨q, hq, rfl⟩ := List.mem_map.1 hx
    exact foot_q (hsub q hq)
  have hnd := h.nd
  unfold foot at hnd
  obtain ⟨n1, n2⟩ := List.nodup_cons.1 hnd
  obtain ⟨n3, n4, n5⟩ := List.nodup_append.1 n2
  refine ⟨⟨?_, ?_, ?_, ?_⟩, ?_⟩
  · have hba : Blk w1 a ts #[v] := (hb.block a hal).trans h.box
    have := Blk.set hba 0 (.slice (some ⟨g, 0, none⟩) (Q.length - 1) c)
    simpa using this
  · rw [hlen, ← erase_rows]
    refine ⟨by rw [erase_rows, rows_len, hlen], .inr ⟨g, c, C, rfl, Nat.zero_le _, ?_, by omega, hcm, hC, hxs⟩⟩
    rw [Below.heap_setCell _ _ _ _ (by simp only; omega)]
    exact hrow
  · intro x hx
    refine owns_block (h.each x (hsub x hx)) (fun b hbb => ?_)
    simp [byV, Value.ownBlock] at hbb
    subst hbb
    rw [Below.heap_setCell _ _ _ _ (fun e => nodup_a h.nd (hsub x hx) e.symm)]
    exact hb.block _ (h.lt _ (foot_q (hsub x hx)))
  · unfold foot
    rw [List.nodup_cons]
    refine ⟨fun hx => ?_, ?_⟩
    · rcases List.mem_append.1 hx with hx | hx
      · simp [Value.ownBlock] at hx; omega
      · obtain ⟨q, hq, e⟩ := List.mem_map.1 hx
        exact nodup_a h.nd (hsub q hq) e.symm
    · rw [List.nodup_append]
      refine ⟨by simp [Value.ownBlock], n4.sublist ((List.eraseIdx_sublist Q k).map _), fun x hx y hy e => ?_⟩
      have hxg : x = g := by simpa [Value.ownBlock] using hx
      subst hxg
      subst e
      have := h.lt _ (hm _ hy)
      omega
  · intro x hx
    unfold foot at hx
    rcases List.mem_cons.1 hx with rfl | hx
    · exact .inl foot_a
    · rcases List.mem_append.1 hx with hx | hx
      · have : x = g := by simpa [Value.ownBlock] using hx
        exact .inr (by omega)
      · exact .inl (hm x hx)

set_option maxHeartbeats 1000000 in
theorem unmap_any (a : Nat) (F : Nat → Prop) (L : List Rg) (hok : Ok L) (at_ : Int) (w : World) (h : PSp w a F L) : Calls Try.prog 42 #[.pointer (some ⟨a, 0, none⟩), .int .i64 at_] w (SetsE a F (unmapS L at_) w) := by
  have c2 := find_any a F L at_ w h
  by_cases hf : findS L at_ < L.length
  · have e : unmapS L at_ = (L.eraseIdx (findS L at_), 0) := by unfold unmapS; rw [if_pos hf]
    rw [e]
    have e1 : findI L at_ = findS L at_ := by unfold findI; rw [if_pos hf]
    have e2 : findE L at_ = 0 := by unfold findE; rw [if_pos hf]
    rw [e1, e2] at c2
    have C2 := Lib.hid c2; clear c2 e1 e2 e
    obtain ⟨v, Q, hs, rfl, hF⟩ := h
    have hqn : Q.length ≤ 67108864 := by have := hok.len; simp at this; omega
    generalize hk : findS (Q.map (·.1)) at_ = k at C2 hf ⊢
    rw [List.length_map] at hf
    have hm' : (Q.map (·.1)).eraseIdx k = (Q.eraseIdx k).map (·.1) := by rw [List.eraseIdx_eq_take_drop_succ, List.eraseIdx_eq_take_drop_succ, List.map_append, List.map_take, List.map_drop]
    rw [hm']
    obtain ⟨A, cap, rfl, hc0, hcap, hm, hrow⟩ := hs.cells
    obtain ⟨q, hq⟩ : ∃ q, Q[k]? = some q := ⟨Q[k], List.getElem?_eq_getElem hf⟩
    obtain ⟨g, rfl, hg, hcell⟩ := hrow k q hq
    have hbox := hs.box.lt
    have HB : Hid (Blk w a 61 #[.slice (some ⟨g, 0, none⟩) Q.length cap]) := Lib.hid hs.box
    have HCLN : Hid (∀ w1, Below w.heap.size w w1 → Calls Try.prog 60 #[.slice (some ⟨g, 0, none⟩) Q.length cap] w1 fun e w' => ∃ v', e = .returned v' ∧ w'.ownsRow w1.heap.size 67 4 v' Q.length (Q.flatMap rgC) ∧ v' ≠ .slice none 0 0 ∧ Below w1.heap.size w1 w') := Lib.hid (fun w1 hb =>
      cloneR_any g 0 Q.length cap (Q.flatMap rgC) w1 (rows_len Q) (by omega) (fun j u hj => by
        have h1 := hs.row.cells (g := g) rfl j u hj
        rw [Addr.add_lit] at h1
        exact (hb.cell (p := ⟨g, 0 + j, none⟩) hg).trans h1) (rows_one Q))
    have HF : Hid (∀ (w1 : World) (g' c : Nat) (C : Array Value), Below w.heap.size w w1 → w.heap.size ≤ g' → w1.heap[g']? = some (.cells C 67 (0, 0)) → C.size = c * 4 → Q.length ≤ c → c ≤ maxLen → C.toList.take ((Q.length - 1) * 4) = (Q.flatMap rgC).take (k * 4) ++ (Q.flatMap rgC).drop ((k + 1) * 4) →
        SetsE a F ((Q.eraseIdx k).map (·.1), 0) w (.returned (.int .i64 0)) (w1.setCell ⟨a, 0, none⟩ (.slice (some ⟨g', 0, none⟩) (Q.length - 1) c))) := Lib.hid (fun w1 g' c C hb h1 h2 h3 h4 h5 h6 => by
      obtain ⟨s1, s2⟩ := hs.unmap hf hb h1 h2 h3 h4 h5 h6
      exact ⟨rfl, ⟨_, _, s1, rfl, fun x hx => by rcases s2 x hx with h | h; exact .inl (hF x h); exact .inr h⟩, (Keeps.of_below hb).setCell (.inl (hF a foot_a)) _⟩)
    have HDEL : Hid (∀ (w2 : World) (g' c : Nat) (C : Array Value), w2.heap[g']? = some (.cells C 67 (0, 0)) → C.size = c * 4 → Q.length ≤ c → c ≤ maxLen → C.toList.take (Q.length * 4) = Q.flatMap rgC → Calls Try.prog 59 #[.slice (some ⟨g', 0, none⟩) Q.length c, .int .i64 k, .int .i64 ((k : Int) + 1)] w2 fun e w' =>
      e = .returned (.slice (some ⟨g', 0, none⟩) (Q.length - 1) c) ∧ ∃ C', C'.size = c * 4 ∧ C'.toList.take ((Q.length - 1) * 4) = (Q.flatMap rgC).take (k * 4) ++ (Q.flatMap rgC).drop ((k + 1) * 4) ∧ w' = (w2.drew).setRow g' C') := Lib.hid (fun w2 g' c C h1 h2 h3 h4 h5 =>
      delete_walk g' Q.length c k C (Q.flatMap rgC) w2 hf h3 (by unfold maxLen at h4; omega) h1 h2 h5 (rows_one Q))
    unfold maxLen at hm
    have hkm : (k : Int) + 1 ≤ 9223372036854775807 := by omega
    clear hq hcell hrow hs hF hk hm' hok hg
    have HC0 := Lib.hid hc0; clear hc0
    go_enter Try.func42, Try.ntmps42
    go_wp2_with fail
    refine (C2.out).mono ?_
    rintro e w1 ⟨rfl, h1⟩
    have b0 : w1.cell? ⟨a, 0, none⟩ = some (.slice (some ⟨g, 0, none⟩) Q.length cap) := (h1.cell (p := ⟨a, 0, none⟩) hbox).trans HC0.out
    have H1 := Lib.hid h1; clear h1
    go_wp2_with fail
    refine (HCLN.out _ H1.out).mono ?_
    rintro e w2 ⟨v', rfl, hown, hne, h2⟩
    obtain ⟨g', c', C, rfl, hg', hC, hnc, hcm, hcs, htk⟩ : ∃ g' c' C, v' = .slice (some ⟨g', 0, none⟩) Q.length c' ∧ w1.heap.size ≤ g' ∧ w2.heap[g']? = some (.cells C 67 (0, 0)) ∧ Q.length ≤ c' ∧ c' ≤ maxLen ∧ C.size = c' * 4 ∧ C.toList.take (Q.length * 4) = Q.flatMap rgC := by
      rcases hown.2 with ⟨h3, h4⟩ | ⟨g', cap', cur, rfl, hb, hgg, hl, hmx, hs, ht⟩
      · omega
      · exact ⟨g', cap', cur, rfl, hb, hgg, hl, hmx, hs, ht⟩
    have HD := Lib.hid (HDEL.out w2 g' c' C hC hcs hnc hcm htk)
    have H2 : Hid (Below w.heap.size w w2) := Lib.hid (H1.out.trans (h2.mono H1.out.size))
    have hg2 : w.heap.size ≤ g' := Nat.le_trans H1.out.size hg'
    have HK := Lib.hid (And.intro hC (And.intro hnc (And.intro hcm hg2)))
    clear hown hne h2 b0 hC hcs htk hnc hcm hg' hg2
    go_wp2_with fail
    refine (HD.out).mono ?_
    rintro e w3 ⟨rfl, C', hcs', htk', rfl⟩
    have hB3 : Below w.heap.size w ((w2.drew).setRow g' C') := by
      refine H2.out.trans ?_
      refine ⟨rfl, rfl, rfl, by rw [setRow_size]; exact Nat.le_refl _, fun j hj => ?_⟩
      rw [setRow_other _ _ _ _ (by have := HK.out.2.2.2; omega)]
      rfl
    have HFF := Lib.hid (HF.out _ g' c' C' hB3 HK.out.2.2.2 (setRow_heap w2.drew g' C _ _ _ HK.out.1) hcs' HK.out.2.1 HK.out.2.2.1 htk')
    have hBa : Blk ((w2.drew).setRow g' C') a 61 #[.slice (some ⟨g, 0, none⟩) Q.length cap] := HB.out.stay hB3 hbox
    clear hB3 hcs' htk'
    generalize (w2.drew).setRow g' C' = w3 at HFF hBa ⊢
    have b1 := hBa.cell 0
    have b2 := hBa.free 0
    go_wp2
    go_ret
    exact HFF.out
  · have e : unmapS L at_ = (L, 50) := by unfold unmapS; rw [if_neg hf]
    rw [e]
    have e1 : findI L at_ = 0 := by unfold findI; rw [if_neg hf]
    have e2 : findE L at_ = 50 := by unfold findE; rw [if_neg hf]
    rw [e1, e2] at c2
    have C2 := Lib.hid c2
    have H := Lib.hid h
    clear c2 e1 e2 e h hf hok
    go_enter Try.func42, Try.ntmps42
    go_wp2_with fail
    refine (C2.out).mono ?_
    rintro e w1 ⟨rfl, h1⟩
    have H1 := Lib.hid h1; clear h1
    go_wp2
    go_ret
    exact SetsE.same H.out H1.out
end Go.Proofs.Ytpononkgeeahdaa
