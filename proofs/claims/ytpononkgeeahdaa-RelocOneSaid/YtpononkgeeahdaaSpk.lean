/-
  Layer 5: MapAt of the program.
  Conditions: none. (My own text.)
-/
import Derived.Test.YtpononkgeeahdaaSpj
import Derived.Deep.RegionHeld3
import Derived.Deep.DeepCutAuto
namespace Go.Proofs.Ytpononkgeeahdaa
open Go.RowKit Spm
set_option linter.unusedVariables false
set_option linter.unusedSimpArgs false

theorem putIn_rows (Q : List RowP) (q : RowP) (i : Nat) : putIn (Q.flatMap rgC) (rgC q) (i * 4) = (Q.take i ++ q :: Q.drop i).flatMap rgC := by
  unfold putIn
  rw [rows_take, rows_drop, List.flatMap_append, List.flatMap_cons, List.append_assoc]

theorem ins_perm (Q : List RowP) (q : RowP) (i : Nat) : (Q.take i ++ q :: Q.drop i).Perm (q :: Q) := by
  have := List.perm_middle (a := q) (l₁ := Q.take i) (l₂ := Q.drop i)
  rwa [List.take_append_drop] at this

theorem foot_ins {a B : Nat} {v v' : Value} {Q : List RowP} {q : RowP} {i : Nat} (hnd : (foot a v Q).Nodup) (hlt : ∀ k ∈ foot a v Q, k < B)
    (hv : (∃ g, v.ownBlock = some g ∧ v'.ownBlock = some g) ∨ ∃ g, v'.ownBlock = some g ∧ B < g) (hq : q.2.1 = B) : (foot a v' (Q.take i ++ q :: Q.drop i)).Nodup ∧ ∀ k ∈ foot a v' (Q.take i ++ q :: Q.drop i), k ∈ foot a v Q ∨ B ≤ k := by
  have hp : ((Q.take i ++ q :: Q.drop i).map (fun q : RowP => q.2.1)).Perm (B :: Q.map (fun q : RowP => q.2.1)) := by rw [← hq]; exact (ins_perm Q q i).map _
  have hQ : ∀ x ∈ Q.map (fun q : RowP => q.2.1), x ∈ foot a v Q := fun x hx => List.mem_cons_of_mem _ (List.mem_append_right _ hx)
  have hal : a < B := hlt a foot_a
  obtain ⟨g, hg', hgc⟩ : ∃ g, v'.ownBlock = some g ∧ (v.ownBlock = some g ∨ B < g) := by
    rcases hv with ⟨g, h1, h2⟩ | ⟨g, h1, h2⟩
    · exact ⟨g, h2, .inl h1⟩
    · exact ⟨g, h1, .inr h2⟩
  have hnd' := hnd
  unfold foot at hnd
  obtain ⟨n1, n2⟩ := List.nodup_cons.1 hnd
  obtain ⟨n3, n4, n5⟩ := List.nodup_append.1 n2
  constructor
  · unfold foot
    rw [hg', List.nodup_cons]
    refine ⟨?_, ?_⟩
    · intro h
      rcases List.mem_append.1 h with h | h
      · have hag : a = g := by simpa using h
        rcases hgc with h1 | h1
        · exact nodup_av hnd' h1 hag
        · omega
      · rcases List.mem_cons.1 (hp.mem_iff.1 h) with h | h
        · omega
        · exact n1 (List.mem_append_right _ h)
    · rw [List.nodup_append]
      refine ⟨by simp, hp.nodup_iff.2 (List.nodup_cons.2 ⟨fun h => ?_, n4⟩), fun x hx y hy e => ?_⟩
      · have := hlt _ (hQ _ h); omega
      · have hxg : x = g := by simpa using hx
        subst hxg
        subst e
        rcases List.mem_cons.1 (hp.mem_iff.1 hy) with h | h
        · rcases hgc with h1 | h1
          · have := hlt _ (foot_v h1); omega
          · omega
        · rcases hgc with h1 | h1
          · exact n5 x (by rw [h1]; simp) x h rfl
          · have := hlt _ (hQ _ h); omega
  · intro k hk
    unfold foot at hk
    rcases List.mem_cons.1 hk with rfl | hk
    · exact .inl foot_a
    · rcases List.mem_append.1 hk with h | h
      · rw [hg'] at h
        have hkg : k = g := by simpa using h
        subst hkg
        rcases hgc with h1 | h1
        · exact .inl (foot_v h1)
        · exact .inr (by omega)
      · rcases List.mem_cons.1 (hp.mem_iff.1 h) with h | h
        · exact .inr (by omega)
        · exact .inl (hQ _ h)

/-- THE INSERTION, of the space: its new slice is stored. -/
theorem Spc.insert {ts : TypeId} {w W w2 : World} {a : Nat} {v v' : Value} {Q : List RowP} {q : RowP} {i : Nat} {Z : Array Value} (h : Spc ts 67 w a v Q)
    (hq1 : q.2.1 = w.heap.size) (hq2 : q.2.2 = q.1.bs.length) (hZ : Z.toList = q.1.bs.map byC) (hZm : q.1.bs.length ≤ maxLen)
    (hW : W.heap = ((w.alloc (.cells Z 5)).alloc (.cells (rgC q).toArray 67)).heap)
    (h1 : w2.ownsRow 0 67 4 v' (Q.length + 1) (putIn (Q.flatMap rgC) (rgC q) (i * 4))) (h2 : (∃ g, v.ownBlock = some g ∧ v'.ownBlock = some g) ∨ ∃ g, v'.ownBlock = some g ∧ W.heap.size ≤ g)
    (h3 : Keeps (fun k => v.ownBlock = some k) W w2) :
    Spc ts 67 (w2.setCell ⟨a, 0, none⟩ v') a v' (Q.take i ++ q :: Q.drop i) ∧ (∀ k ∈ foot a v' (Q.take i ++ q :: Q.drop i), k ∈ foot a v Q ∨ w.heap.size ≤ k) := by
  have hWs : W.heap.size = w.heap.size + 1 + 1 := by rw [hW]; simp
  have hWk : ∀ k, k < w.heap.size → W.heap[k]? = w.heap[k]? := fun k hk => by
    rw [hW, Below.heap_alloc _ _ _ (by simp; omega), Below.heap_alloc _ _ _ hk]
  have hW0 : W.heap[w.heap.size]? = some (.cells Z 5 (0, 0)) := by
    rw [hW, Below.heap_alloc _ _ _ (by simp)]; exact heap_alloc_new w _
  have hv2 : (∃ g, v.ownBlock = some g ∧ v'.ownBlock = some g) ∨ ∃ g, v'.ownBlock = some g ∧ w.heap.size < g := by
    rcases h2 with h2 | ⟨g, h2, h4⟩
    · exact .inl h2
    · exact .inr ⟨g, h2, by omega⟩
  obtain ⟨f1, f2⟩ := foot_ins (i := i) h.nd h.lt hv2 hq1
  have hnv : ∀ k, k ∈ foot a v Q → v.ownBlock ≠ some k → w2.heap[k]? = w.heap[k]? := fun k hk hn => by
    have hlt := h.lt k hk
    rw [h3.block k (by omega) hn, hWk k hlt]
  have hav' : ∀ g, v'.ownBlock = some g → g ≠ a := fun g hg e => by
    subst e
    have := f1
    unfold foot at this
    exact (List.nodup_cons.1 this).1 (List.mem_append_left _ (by rw [hg]; simp))
  have hba : Blk w2 a ts #[v] := (hnv a foot_a (fun e => nodup_av h.nd e rfl)).trans h.box
  refine ⟨⟨?_, ?_, ?_, f1⟩, f2⟩
  · have := hba.set 0 v'
    simpa using this
  · have hlen : (Q.take i ++ q :: Q.drop i).length = Q.length + 1 := by simp; omega
    rw [hlen, ← putIn_rows]
    exact owns_block h1 (fun g hg => Below.heap_setCell _ _ _ _ (hav' g hg))
  · intro x hx
    have hx' := (ins_perm Q q i).mem_iff.1 hx
    rcases List.mem_cons.1 hx' with rfl | hxq
    · have hcell : (w2.setCell ⟨a, 0, none⟩ v').heap[x.2.1]? = some (.cells Z 5 (0, 0)) := by
        rw [Below.heap_setCell _ _ _ _ (by have := h.lt a foot_a; simp only; omega), h3.block _ (by omega) (fun e => by have := h.lt _ (foot_v e); omega), hq1]
        exact hW0
      refine ⟨by simp, .inr ⟨x.2.1, x.2.2, Z, rfl, Nat.zero_le _, hcell, by omega, by omega, ?_, ?_⟩⟩
      · rw [hq2, Nat.mul_one, ← Array.length_toList, hZ, List.length_map]
      · rw [Nat.mul_one, hZ]; exact List.take_of_length_le (by simp)
    · refine owns_block (h.each x hxq) (fun g hg => ?_)
      simp [byV, Value.ownBlock] at hg
      subst hg
      rw [Below.heap_setCell _ _ _ _ (fun e => nodup_a h.nd hxq e.symm)]
      exact hnv _ (foot_q hxq) (fun e => nodup_v h.nd hxq e rfl)
end Go.Proofs.Ytpononkgeeahdaa
