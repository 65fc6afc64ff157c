/-
  Layer 5: Copy of the program.
  Conditions: none. (My own text.)
-/
import Derived.Test.YtpononkgeeahdaaSpk
import Derived.Test.YtpononkgeeahdaaSpd
import Derived.Test.YtpononkgeeahdaaSpq
import Derived.Deep.AppendLies
namespace Go.Proofs.Ytpononkgeeahdaa
open Go.RowKit Spm
set_option linter.unusedVariables false
set_option linter.unusedSimpArgs false

/-- One more region behind the others. -/
theorem Spc.push {ts tr : TypeId} {w w2 : World} {a g H : Nat} {v v' : Value} {Q : List RowP} {q : RowP} (h : Spc ts tr w a v Q) (hb : Bys w 0 (byV q) q.1.bs) (hfresh : q.2.1 ∉ foot a v Q)
    (h1 : w2.ownsRow 0 tr 4 v' (Q.length + 1) (Q.flatMap rgC ++ rgC q)) (hv' : v'.ownBlock = some g) (h2 : v.ownBlock = some g ∨ g = H) (hH : w.heap.size ≤ H)
    (h3 : Keeps (fun k => v.ownBlock = some k) w w2) :
    Spc ts tr (w2.setCell ⟨a, 0, none⟩ v') a v' (Q ++ [q]) ∧ (∀ k ∈ foot a v' (Q ++ [q]), k ∈ foot a v Q ∨ k = q.2.1 ∨ k = H) := by
  have hqlt : q.2.1 < w.heap.size := (hb.lt _ rfl).2
  have hga : g ≠ a := by
    rcases h2 with h2 | h2
    · exact fun e => nodup_av h.nd h2 e.symm
    · have := h.lt a foot_a; omega
  have hgq : g ≠ q.2.1 := by
    rcases h2 with h2 | h2
    · exact fun e => hfresh (e ▸ foot_v h2)
    · omega
  have hgQ : ∀ x ∈ Q, g ≠ x.2.1 := fun x hx => by
    rcases h2 with h2 | h2
    · exact fun e => nodup_v h.nd hx h2 e
    · have := h.lt _ (foot_q hx); omega
  have hqa : q.2.1 ≠ a := fun e => hfresh (e ▸ foot_a)
  have hqn : v.ownBlock ≠ some q.2.1 := fun e => hfresh (foot_v e)
  have f1 : (foot a v' (Q ++ [q])).Nodup := by
    have hnd := h.nd
    unfold foot at hnd ⊢
    rw [hv']
    obtain ⟨n1, n2⟩ := List.nodup_cons.1 hnd
    obtain ⟨n3, n4, n5⟩ := List.nodup_append.1 n2
    rw [List.nodup_cons]
    refine ⟨fun hm => ?_, ?_⟩
    · rcases List.mem_append.1 hm with hm | hm
      · have h5 : a = g := by simpa using hm
        exact hga h5.symm
      · rw [List.map_append] at hm
        rcases List.mem_append.1 hm with hm | hm
        · exact n1 (List.mem_append_right _ hm)
        · have h5 : a = q.2.1 := by simpa using hm
          exact hqa h5.symm
    · rw [List.nodup_append]
      refine ⟨by simp, ?_, fun x hx y hy e => ?_⟩
      · rw [List.map_append, List.nodup_append]
        refine ⟨n4, by simp, fun x hx y hy e => ?_⟩
        have hy' : y = q.2.1 := by simpa using hy
        obtain ⟨z, hz, rfl⟩ := List.mem_map.1 hx
        exact hfresh (by rw [← hy', ← e]; exact foot_q hz)
      · have hx' : x = g := by simpa using hx
        rw [List.map_append] at hy
        rcases List.mem_append.1 hy with hy | hy
        · obtain ⟨z, hz, rfl⟩ := List.mem_map.1 hy
          exact hgQ z hz (by rw [← hx', e])
        · have hy' : y = q.2.1 := by simpa using hy
          exact hgq (by rw [← hx', e, hy'])
  refine ⟨⟨?_, ?_, ?_, f1⟩, fun k hk => ?_⟩
  · have hba : Blk w2 a ts #[v] := h.box.keeps h3 (fun e => nodup_av h.nd e rfl)
    have := hba.set 0 v'
    simpa using this
  · rw [List.flatMap_append, List.length_append]
    refine owns_block (by simpa using h1) (fun k hk => Below.heap_setCell _ _ _ _ (fun e => ?_))
    rw [hv'] at hk
    exact hga ((Option.some.inj hk).trans e)
  · intro x hx
    have hkx : ∀ k, k < w.heap.size → k ≠ a → v.ownBlock ≠ some k → (w2.setCell ⟨a, 0, none⟩ v').heap[k]? = w.heap[k]? := fun k hk h4 h5 => (Below.heap_setCell _ _ _ _ h4).trans (h3.block k hk h5)
    rcases List.mem_append.1 hx with hx | hx
    · refine owns_block (h.each x hx) (fun k hk => ?_)
      have hk' : x.2.1 = k := by simpa [byV, Value.ownBlock] using hk
      subst hk'
      exact hkx _ (h.lt _ (foot_q hx)) (fun e => nodup_a h.nd hx e.symm) (fun e => nodup_v h.nd hx e rfl)
    · have hx' : x = q := by simpa using hx
      subst hx'
      refine owns_block hb (fun k hk => ?_)
      have hk' : x.2.1 = k := by simpa [byV, Value.ownBlock] using hk
      subst hk'
      exact hkx _ hqlt hqa hqn
  · unfold foot at hk
    rw [hv'] at hk
    rcases List.mem_cons.1 hk with rfl | hk
    · exact .inl foot_a
    · rcases List.mem_append.1 hk with hk | hk
      · have hk' : k = g := by simpa using hk
        subst hk'
        rcases h2 with h2 | h2
        · exact .inl (foot_v h2)
        · exact .inr (.inr h2)
      · rw [List.map_append] at hk
        rcases List.mem_append.1 hk with hk | hk
        · obtain ⟨z, hz, rfl⟩ := List.mem_map.1 hk
          exact .inl (foot_q hz)
        · exact .inr (.inl (by simpa using hk))

theorem owns_some {w : World} {base : Nat} {e : TypeId} {size n : Nat} {v : Value} {xs : List Value} (h : w.ownsRow base e size v n xs) (hv : v ≠ .slice none 0 0) : ∃ g c, v = .slice (some ⟨g, 0, none⟩) n c ∧ base ≤ g := by
  rcases h.2 with ⟨h1, _⟩ | ⟨g, cap, cur, hv', hb, _⟩
  · exact absurd h1 hv
  · exact ⟨g, cap, hv', hb⟩

end Go.Proofs.Ytpononkgeeahdaa
