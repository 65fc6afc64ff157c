/-
  Layer 17: the numbers of the modules, sorted (maps.Keys, slices.Sorted).
  Conditions: none. (My own text.)
-/
import Derived.Test.YtpenejigebkkmaaTmd
import Derived.Test.YtpenejigebkkmaaTmg
import Derived.Test.YtpenejigebkkmaaShp
namespace Go.Proofs.Ytpenejigebkkmaa
open Go.RowKit Go.Shelf
open Go.WideElems (Fit rd rg rg_of rd_mk)
set_option linter.unusedVariables false
set_option linter.unusedSimpArgs false

theorem tsorts (m : Nat) : Go.Proofs.AnyZI.SortsIn Try.prog Try.sortedL_ren Fence.wide m :=
  ⟨fun blk off cap ss W hH hblk hsz => callsIn_wide.2 (Go.Proofs.AnyM.slices_Sort_int Try.sortL blk off cap ss W hH hblk hsz),
   fun p cap W => callsIn_wide.2 (Go.Proofs.AnyM.slices_Sort_int_none Try.sortL p cap W)⟩
/-- Any value reads as nothing: of a map only the keys matter here. -/
def unitR : Value → Option (DataW Nat × List MemPlace) := fun _ => some (.nil, [])
theorem keyOf_i (k : Int) (hk : (Lit.int .i64 k).wf = true) : keyOf Try.prog 3 (.int .i64 k) = some (.int .i64 k) := Go.Maps.keyOf_int_mk Try.underlying3 hk
theorem fit_es {es : List Ent} {c : Nat} (h : Good es c) (hl : es.length ≤ maxLen) (hk : ∀ e ∈ es, (Lit.int .i64 e.1).wf = true) : Fit Try.prog 3 unitR (es.map entM).toArray c := by
  refine ⟨by simpa using hl, ⟨fun x hx => ?_, ?_, ?_⟩, fun x hx => ?_⟩
  · rw [List.toList_toArray] at hx
    obtain ⟨e, he, rfl⟩ := List.mem_map.1 hx
    exact h.past e he
  · rw [List.toList_toArray, List.map_map]
    exact h.born
  · rw [List.toList_toArray, List.map_map]
    have hn := h.keys
    unfold List.Nodup at hn ⊢
    rw [List.pairwise_map] at hn ⊢
    refine hn.imp fun {a b} hab e => hab ?_
    have e2 : (Value.int .i64 a.1) = .int .i64 b.1 := e
    exact Value.int.inj e2 |>.2
  · rw [List.toList_toArray] at hx
    obtain ⟨e, he, rfl⟩ := List.mem_map.1 hx
    exact ⟨_, rd_mk (keyOf_i e.1 (hk e he)) rfl⟩
/-- The datum of a map of which only the keys matter. -/
def KeyD (es : List Ent) (D : DataW Nat) : Prop := D = .map (((es.map entM).map (rg Try.prog 3 unitR)).foldr DataW.insert [])
theorem owns_es {D : DataW Nat} {w : World} {g : Nat} {es : List Ent} {c : Nat} (hg : w.heap[g]? = some (.map (es.map entM).toArray c)) (h : Good es c) (hl : es.length ≤ maxLen) (hk : ∀ e ∈ es, (Lit.int .i64 e.1).wf = true) (hD : KeyD es D) : w.ownsMap Try.prog 3 unitR g es.length D :=
  ⟨_, _, hg, fit_es h hl hk, by simp, by rw [List.toList_toArray]; exact hD⟩
theorem unitR_some (v : Value) : unitR v = some (.nil, []) := by unfold unitR; rfl
theorem rg_es {e : Ent} (hk : (Lit.int .i64 e.1).wf = true) : rg Try.prog 3 unitR (entM e) = (.int .i64 e.1, .nil) := by
  have h2 : rd Try.prog 3 unitR (entM e) = some (.int .i64 e.1, .nil) := by
    unfold entM
    rw [rd_mk (keyOf_i e.1 hk) (unitR_some _)]
  exact rg_of h2
theorem keys_es {D : DataW Nat} {es : List Ent} (hk : ∀ e ∈ es, (Lit.int .i64 e.1).wf = true) (hD : KeyD es D) : (intKeys D).Perm (es.map (·.1)) := by
  subst hD
  show (List.map _ _).Perm _
  refine ((Go.WideShapes.sorted_perm _).map fun p : Lit × DataW Nat => Go.intOf p.1).trans ?_
  rw [List.map_map, List.map_map]
  refine List.Perm.of_eq (List.map_congr_left fun e he => ?_)
  have h1 : rg Try.prog 3 unitR (entM e) = (.int .i64 e.1, .nil) := rg_es (hk e he)
  simp only [Function.comp_apply, h1]
  rfl
theorem size_es {D : DataW Nat} {es : List Ent} (hD : KeyD es D) : Go.Maps.size D = es.length := by
  subst hD
  show List.length _ = _
  rw [(Go.WideShapes.sorted_perm _).length_eq]
  simp
/-- maps.Keys: a function over one new block that holds the map. -/
theorem tkeys_any (g : Nat) (W : World) : Calls Try.prog 35 #[.map (some g)] W fun e w' => e = .returned (.func (.func 47) #[] #[.pointer (some ⟨W.heap.size, 0, none⟩)]) ∧ w' = W.alloc (.cells #[.map (some g)] 62) :=
  (callsIn_wide (n := 5)).1 (Go.Proofs.AnyZI.keys_in Try.keysL Fence.wide 5 trivial rfl (some g) W)
set_option maxRecDepth 100000 in
set_option maxHeartbeats 1000000 in
/-- slices.Sorted of what that handed back: the keys, ascending, in memory of its own. -/
theorem tsorted_any {W : World} {g : Nat} {es : List Ent} {c : Nat} (hg : W.heap[g]? = some (.map (es.map entM).toArray c)) (h : Good es c) (hl : es.length ≤ 1000000) (hk : ∀ e ∈ es, (Lit.int .i64 e.1).wf = true) :
    Calls Try.prog 34 #[.func (.func 47) #[] #[.pointer (some ⟨W.heap.size, 0, none⟩)]] (W.alloc (.cells #[.map (some g)] 62)) fun e w' => ∃ v, e = .returned v ∧
      w'.ownsRow (W.heap.size + 1) 3 1 v es.length (((es.map (·.1)).mergeSort leI).map encZ) ∧ Below (W.heap.size + 1) (W.alloc (.cells #[.map (some g)] 62)) w' := by
  obtain ⟨D, hD⟩ : ∃ D, KeyD es D := ⟨_, rfl⟩
  have hmax : Go.Maps.size D ≤ maxLen := by rw [size_es hD]; unfold maxLen; omega
  have hbytes : Go.Maps.size D * 8 ≤ 140737488355328 := by rw [size_es hD]; omega
  have hown := owns_es hg h (by unfold maxLen; omega) hk hD
  have hbl := hown.lt
  have hseq : SeqGives Fence.wide 2 Try.prog 47 #[.pointer (some ⟨W.heap.size, 0, none⟩)] encZ (fun ss => ss.Perm (intKeys D)) (Go.Maps.size D) (W.alloc (.cells #[.map (some g)] 62)) :=
    Go.Proofs.AnyZI.keys_gives (ρ := Try.keysL_ren) { Try.keysL with } Fence.wide _ trivial rfl (by omega) W.heap.size g es.length D _ (by simp) (by simp) (by
      obtain ⟨es', clock, hb, Ft, hs, hD⟩ := hown
      exact ⟨es', clock, (Below.heap_alloc _ _ g hbl).trans hb, Ft, hs, hD⟩)
  have cS := Go.Proofs.AnyZI.sorted_in Try.sortedL Fence.wide 5 trivial trivial trivial trivial rfl (by omega) (tsorts _) (enters_of Try.func46 (by kernel_rfl) rfl) 47 #[.pointer (some ⟨W.heap.size, 0, none⟩)] trivial (enters_of Try.func47 (by kernel_rfl) rfl) _ _ hmax hbytes _ hseq
  change CallsIn _ _ Try.prog 34 _ _ _ at cS
  refine ((callsIn_wide (n := 5)).1 cS).mono ?_
  rintro e w' ⟨v, ss, rfl, hS, hrow, -, hb⟩
  have hp : ss.Perm (es.map (·.1)) := hS.trans (keys_es hk hD)
  have hlen : ss.length = es.length := by rw [hp.length_eq, List.length_map]
  refine ⟨v, rfl, ?_, ?_⟩
  · have h1 := mergeSort_of_perm_i hp
    rw [← h1, ← hlen]
    have h2 := hrow
    simp only [World.alloc, Array.size_push] at h2
    exact h2
  · simpa using hb
end Go.Proofs.Ytpenejigebkkmaa
