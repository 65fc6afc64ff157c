/-
  Layer 17: a template made full (tls.module.bytes).
  Conditions: none. (My own text.)
-/
import Derived.Lib.AppendZeros
import Derived.Test.YtpenejigebkkmaaGreatTmf
import Derived.Test.YtpenejigebkkmaaGreatRgd
namespace Go.Proofs.YtpenejigebkkmaaGreat
open Go.RowKit Spm
set_option linter.unusedVariables false
set_option linter.unusedSimpArgs false

open Go.Lib hiding intOf
theorem run_appendz (w : World) (base : Nat) (tn ty : TypeId) (kn : IntKind) (htn : Tryz.prog.underlying tn = some (.int kn)) {v : Value} {n : Nat} {xs : List Value} (hown : w.ownsRow base 5 1 v n xs) (m : Nat) (hs : n + m ≤ 1000000) (hbase : base ≤ w.heap.size) :
    ∃ v' w', (Builtin.append_ #[38, tn] ty #[v, .int .i64 m]).run Tryz.prog w = .ok v' w' ∧ w'.ownsRow base 5 1 v' (n + m) (xs ++ List.replicate m (.int .u8 0)) ∧ w.grownBy w' v.ownBlock := by
  obtain ⟨i, hi, hz, hsz, hby⟩ := info_parts cloneB_info
  have ht : Tryz.prog.underlying 38 = some (.slice 5) := Tryz.underlying38
  have h63 : n + m ≤ maxLen := by unfold maxLen; omega
  have hlen : (xs ++ List.replicate m (Value.int .u8 0)).length = (n + m) * 1 := by rw [List.length_append, hown.1, List.length_replicate]; omega
  have hzc : ∀ k, Builtin.zeroCells (Value.int .u8 0).cells k = (List.replicate k (Value.int .u8 0)).toArray := fun k => by
    apply Array.ext'
    simp only [Builtin.zeroCells, Value.cells]
    apply List.ext_getElem
    · simp
    · intro j h1 h2
      simp [Nat.mod_one]
  have hw : IntKind.i64.wrap (m : Int) = m := by rw [IntKind.wrap_i64]; omega
  have hw0 : IntKind.i64.wrap 0 = 0 := by rw [IntKind.wrap_i64]; rfl
  have hneg : ¬ ((m : Int) < 0) := by omega
  have h48i : ¬ (281474976710656 < (m : Int) * (i.bytes : Int)) := by rw [hby]; omega
  rcases hown.2 with ⟨rfl, rfl⟩ | ⟨g, cap, cur, rfl, hbg, hg, hnc, hcm, hcs, htake⟩
  · have hx : xs = [] := List.eq_nil_of_length_eq_zero (by simpa using hown.1)
    subst hx
    by_cases hm : m = 0
    · subst hm
      refine ⟨.slice none 0 0, w, ?_, World.ownsRow_nil w base 5 1, ⟨rfl, rfl, rfl, Nat.le_refl _, fun _ _ _ => rfl⟩⟩
      simp [Builtin.append_, run_underlying ht, run_underlying htn, sizeOf, typeInfo, hi, asInt, asIntOf, hw0]
    · have hr := run_append_nil_zeros (P := Tryz.prog) w 38 tn ty 5 i (.int .u8 0) .i64 kn ht htn hi hz m (by omega) (by omega) (by omega) (by rw [hby]; omega)
      have hge := grownCap_ge w m 0 5
      have hcm := grownCap_le_maxLen w m 0 5 (by omega)
      refine ⟨_, _, hr, ⟨by simp, .inr ⟨w.heap.size, grownCap w m 0 5, _, by rw [Nat.zero_add], hbase, heap_alloc_new w.drew _, by omega, hcm, ?_, ?_⟩⟩, ⟨rfl, rfl, rfl, by simp, fun k hk hr => (World.grownBy_alloc w.drew _ none).block k hk (by simp)⟩⟩
      · rw [hzc, hzc]; simp; omega
      · rw [hzc, hzc]; simp
  · by_cases hroom : n + m ≤ cap
    · have hst := run_storeCells_at Tryz.prog g (n * 1) 5 (List.replicate m (Value.int .u8 0)) 0 cur w hg (by simp; omega) (by intro u hu; rw [List.eq_of_mem_replicate hu]; rfl)
      simp only [Nat.add_zero, Nat.mul_one] at hst
      have hr : (Builtin.append_ #[38, tn] ty #[.slice (some ⟨g, 0, none⟩) n cap, .int .i64 m]).run Tryz.prog w = .ok (.slice (some ⟨g, 0, none⟩) (n + m) cap) (w.setRow g (cur.toList.take n ++ List.replicate m (Value.int .u8 0) ++ cur.toList.drop (n + (List.replicate m (Value.int .u8 0)).length)).toArray) := by
        by_cases hm : m = 0
        · subst hm
          have hst0 := hst
          simp only [List.replicate_zero] at hst0 ⊢
          simp [Builtin.append_, run_underlying ht, run_underlying htn, sizeOf, typeInfo, hi, asInt, asIntOf, hw0, hnc, hsz, Addr.add_lit, hst0]
        · simp [Builtin.append_, run_underlying ht, run_underlying htn, sizeOf, typeInfo, zeroValue, hi, hz, hsz, asInt, asIntOf, hw, hneg, hm, h48i, hroom, Addr.add_lit, hst, hzc]
      refine ⟨_, _, hr, ⟨hlen, .inr ⟨g, cap, _, rfl, hbg, setRow_heap w g cur _ 5 _ hg, hroom, hcm, ?_, ?_⟩⟩, ⟨rfl, rfl, rfl, by simp, fun k _ hk => setRow_other w g k _ (fun e => hk (by simp [Value.ownBlock, e]))⟩⟩
      · simp; omega
      · rw [Nat.mul_one] at htake
        rw [htake, ← hlen]
        exact List.take_left
    · have holds : ∀ j u, xs[j]? = some u → w.drew.cell? ((⟨g, 0, none⟩ : Addr).add j) = some u := hown.cells (g := g) rfl
      have hfo := run_firstCells_some (P := Tryz.prog) w.drew 1 n ⟨g, 0, none⟩ n cap xs hown.1 holds
      have h63' : ¬ (9223372036854775807 < ((n : Int) + (m : Int))) := by omega
      have h48' : ¬ (281474976710656 < Builtin.nextslicecap (n + m) cap * i.bytes) := by
        have := growslice_fits (need := n + m) (old := cap) (bytes := 1) (by omega) (by omega)
        rw [hby]; omega
      have hm : ¬ m = 0 := by omega
      have hr : (Builtin.append_ #[38, tn] ty #[.slice (some ⟨g, 0, none⟩) n cap, .int .i64 m]).run Tryz.prog w = .ok (.slice (some ⟨w.heap.size, 0, none⟩) (n + m) (grownCap w (n + m) cap 5)) (w.drew.alloc (.cells (xs ++ List.replicate m (Value.int .u8 0) ++ List.replicate (grownCap w (n + m) cap 5 - (n + m)) (Value.int .u8 0)).toArray 5)) := by
        simp [Builtin.append_, run_underlying ht, run_underlying htn, sizeOf, typeInfo, zeroValue, hi, hz, hsz, asInt, asIntOf, hw, hneg, hm, h48i, hroom, h63', h48', Question.forced, hfo, newRow, grownCap, hzc]
        refine congrArg (fun z => w.drew.alloc (.cells z 5)) ?_
        apply Array.ext'
        simp only [Array.toList_append, Array.toList_replicate]
      have hge := grownCap_ge w (n + m) cap 5
      have hcm2 := grownCap_le_maxLen w (n + m) cap 5 h63
      refine ⟨_, _, hr, ⟨hlen, .inr ⟨w.heap.size, _, _, rfl, hbase, heap_alloc_new w.drew _, hge, hcm2, ?_, ?_⟩⟩, ⟨rfl, rfl, rfl, by simp, fun k hk hr => (World.grownBy_alloc w.drew _ none).block k hk (by simp)⟩⟩
      · have := hown.1; simp; omega
      · rw [← hlen]
        exact List.take_left
theorem clone_bt {w : World} {base : Nat} {v : Value} {l : List UInt8} (h : Bys w base v l) (hl : l.length ≤ 1000000) : Calls Tryz.prog 21 #[v] w fun e w' => ∃ v', e = .returned v' ∧ Bys w' w.heap.size v' l ∧ Below w.heap.size w w' := by
  rcases h.2 with ⟨rfl, hn⟩ | ⟨g, cap, cur, rfl, hb, hg, hlc, hm, hs, ht⟩
  · obtain rfl := List.eq_nil_of_length_eq_zero hn
    refine (cloneB_nil 0 0 w).mono ?_
    rintro e w' ⟨rfl, rfl⟩
    exact ⟨_, rfl, World.ownsRow_nil w _ _ _, Below.refl _ _⟩
  · refine (cloneB_any g 0 l.length cap (l.map byC) w (by simp) (by omega) (fun j u hj => ?_) (byC_one l)).mono ?_
    · have := h.cells (g := g) rfl j u hj
      rwa [Addr.add_lit] at this
    · rintro e w' ⟨v', rfl, h1, -, h2⟩
      exact ⟨v', rfl, h1, h2⟩
theorem exec_append_run {P : Program} {w w' : World} {o : Oper} {a : Go.Act} (s x : Operand) (t tn : TypeId) (ho : o.op = .call { callee := .builtin .append, args := #[s, x], argTypes := #[t, tn] }) (vs vx : Value) (hs : a.eval s = vs) (hx : a.eval x = vx) {v' : Value} (hr : (Builtin.append_ #[t, tn] o.type #[vs, vx]).run P w = .ok v' w') : (execOp a.eval o).run P w = .ok (.value v') w' := by
  unfold execOp
  simp only [ho, resolve, invoke, builtin, Sem.run_bind, Sem.run_pure, Result.andThen_ok, List.map_toArray, List.map_cons, List.map_nil, hs, hx, hr]
theorem bys_low {w : World} {base base' : Nat} {e : TypeId} {size : Nat} {v : Value} {n : Nat} {xs : List Value} (h : w.ownsRow base e size v n xs) (hb : base' ≤ base) : w.ownsRow base' e size v n xs :=
  ⟨h.1, h.2.imp id fun ⟨g, cap, cur, h1, h2, h3⟩ => ⟨g, cap, cur, h1, by omega, h3⟩⟩
/-- A template made full. -/
def fullB (x : Mdl) : List UInt8 := x.tm ++ List.replicate (x.size.toNat - x.tm.length) 0
theorem fullB_len {x : Mdl} (h : x.tm.length ≤ x.size) : (fullB x).length = x.size := by
  unfold fullB
  rw [List.length_append, List.length_replicate]
  omega
set_option maxRecDepth 100000 in
set_option maxHeartbeats 4000000 in
theorem tbytes_any {w : World} {base : Nat} {x : Mdl} {v : Value} (h : Bys w base v x.tm) (hx : x.tm.length ≤ x.size) (hx2 : x.size ≤ 4096) : Calls Tryz.prog 45 #[.agg (mdA x v)] w fun e w' => ∃ v', e = .returned v' ∧ Bys w' w.heap.size v' (fullB x) ∧ Below w.heap.size w w' := by
  obtain ⟨A, c, hv, -, hsrc⟩ := h.src
  obtain ⟨n, hn⟩ : ∃ n : Nat, x.size = n := ⟨x.size.toNat, by omega⟩
  have hA : mdA x v = #[.int .i64 x.gen, .int .i64 n, .slice A x.tm.length c, .bool x.st, .int .i64 x.bh] := by unfold mdA; rw [hv, hn]
  rw [hA]
  have hb : Bys w base (.slice A x.tm.length c) x.tm := hv ▸ h
  have HF : Hid (fullB x = x.tm ++ List.replicate (n - x.tm.length) 0) := Lib.hid (by unfold fullB; rw [hn]; rfl)
  have HN : Hid (x.tm.length ≤ n) := Lib.hid (by omega)
  have HN2 : Hid (n ≤ 4096) := Lib.hid (by omega)
  have e1 : (n : Int) - (x.tm.length : Int) = ((n - x.tm.length : Nat) : Int) := by omega
  have ew : IntKind.i64.wrap ((n : Int) - (x.tm.length : Int)) = ((n - x.tm.length : Nat) : Int) := by rw [e1, IntKind.wrap_i64]; omega
  have HW := Lib.hid ew
  have HB := Lib.hid hb
  have M1 := Lib.hid ((Below.refl w.heap.size w).alloc (Nat.le_refl _) (.cells #[.int .i64 x.gen, .int .i64 n, .slice A x.tm.length c, .bool x.st, .int .i64 x.bh] 62))
  have HO := Lib.hid (heap_alloc_new w (.cells #[.int .i64 x.gen, .int .i64 n, .slice A x.tm.length c, .bool x.st, .int .i64 x.bh] 62))
  have HBA := Lib.hid (hb.alloc (.cells #[.int .i64 x.gen, .int .i64 n, .slice A x.tm.length c, .bool x.st, .int .i64 x.bh] 62))
  have HLT : Hid (w.heap.size < (w.alloc (.cells #[.int .i64 x.gen, .int .i64 n, .slice A x.tm.length c, .bool x.st, .int .i64 x.bh] 62)).heap.size) := Lib.hid (by simp)
  clear h hx hx2 hv hn hA hb e1 ew hsrc HB
  generalize hKK : x.tm.length = k at *
  have HK := Lib.hid hKK
  clear hKK
  go_enter Tryz.func45, Tryz.ntmps45
  go_upto_region 1 with fail
  obtain ⟨W, hW⟩ : ∃ W, w.alloc (.cells #[.int .i64 x.gen, .int .i64 n, .slice A k c, .bool x.st, .int .i64 x.bh] 62) = W := ⟨_, rfl⟩
  rw [hW] at M1 HO HBA HLT ⊢
  clear hW
  generalize hq : w.heap.size = q at M1 HO HLT ⊢
  have hS0 : (fun X : World => X.heap[q]? = some (.cells #[.int .i64 x.gen, .int .i64 n, .slice A k c, .bool x.st, .int .i64 x.bh] 62 (0, 0))) W.drew := HO.out
  refine wp_region_noPanic ?_
  refine wp_region_held_drew (S := fun X : World => X.heap[q]? = some (.cells #[.int .i64 x.gen, .int .i64 n, .slice A k c, .bool x.st, .int .i64 x.bh] 62 (0, 0))) (by kernel_rfl) hS0 ?_
  clear hS0
  intro hS
  have HC : Hid (∀ X : World, X.heap[q]? = some (.cells #[.int .i64 x.gen, .int .i64 n, .slice A k c, .bool x.st, .int .i64 x.bh] 62 (0, 0)) → X.cell? ⟨q, 1, none⟩ = some (.int .i64 n) ∧ X.cell? ⟨q, 2, none⟩ = some (.slice A k c)) := Lib.hid (fun X h => ⟨by rw [cell_of_row X q 1 _ _ _ h]; rfl, by rw [cell_of_row X q 2 _ _ _ h]; rfl⟩)
  refine takeR (i := 0) (v := .pointer (some ⟨q, 2, none⟩)) 3 rfl (by kernel_rfl) (by kernel_rfl) (by kernel_rfl) (by kernel_rfl) (fun _ _ _ h => h) (yields_pure (by kernel_rfl) (fun w => by kernel_rfl)) hS ?_
  refine takeR (i := 1) 4 rfl (by kernel_rfl) (by kernel_rfl) (by kernel_rfl) (by kernel_rfl) (fun _ _ _ h => h) (yields_load_cell (by kernel_rfl) 38 _ rfl q 2 (by kernel_rfl) (.slice A k c) (fun X h => (HC.out X h).2) _ Tryz.underlying38 rfl) hS ?_
  refine takeR (i := 3) (v := .pointer (some ⟨q, 1, none⟩)) 6 rfl (by kernel_rfl) (by kernel_rfl) (by kernel_rfl) (by kernel_rfl) (fun _ _ _ h => h) (yields_pure (by kernel_rfl) (fun w => by kernel_rfl)) hS ?_
  refine takeR (i := 4) 7 rfl (by kernel_rfl) (by kernel_rfl) (by kernel_rfl) (by kernel_rfl) (fun _ _ _ h => h) (yields_load_cell (by kernel_rfl) 3 _ rfl q 1 (by kernel_rfl) (.int .i64 n) (fun X h => (HC.out X h).1) _ Tryz.underlying3 rfl) hS ?_
  refine takeR (i := 5) (v := .pointer (some ⟨q, 2, none⟩)) 8 rfl (by kernel_rfl) (by kernel_rfl) (by kernel_rfl) (by kernel_rfl) (fun _ _ _ h => h) (yields_pure (by kernel_rfl) (fun w => by kernel_rfl)) hS ?_
  refine takeR (i := 6) 9 rfl (by kernel_rfl) (by kernel_rfl) (by kernel_rfl) (by kernel_rfl) (fun _ _ _ h => h) (yields_load_cell (by kernel_rfl) 38 _ rfl q 2 (by kernel_rfl) (.slice A k c) (fun X h => (HC.out X h).2) _ Tryz.underlying38 rfl) hS ?_
  refine takeR (i := 7) (v := .int .i64 k) 10 rfl (by kernel_rfl) (by kernel_rfl) (by kernel_rfl) (by kernel_rfl) (fun _ _ _ h => h) (yields_pure (by kernel_rfl) (fun w => by kernel_rfl)) hS ?_
  refine takeR (i := 8) (v := .int .i64 ((n - k : Nat) : Int)) 11 rfl (by kernel_rfl) (by kernel_rfl) (by kernel_rfl) (by kernel_rfl) (fun _ _ _ h => h) (yields_pure (by kernel_rfl) (fun w => (show _ = Result.ok (Next.value (.int .i64 (IntKind.i64.wrap ((n : Int) - (k : Int))))) w by kernel_rfl).trans (by rw [HW.out]))) hS ?_
  refine wpAnyH_all (rs := [2]) (by kernel_rfl) (by simp) ?_
  intro j hj
  obtain rfl : j = 2 := by simpa using hj
  have hbd : Bys W.drew base (.slice A k c) x.tm := by unfold Bys; rw [HK.out]; exact HBA.out
  refine opR_call 5 rfl rfl (by kernel_rfl) _ _ _ rfl _ (by kernel_rfl) ((clone_bt hbd (by rw [HK.out]; have := HN.out; have := HN2.out; omega)).mono ?_)
  rintro e X1 ⟨v1, rfl, hb1, hbel⟩
  have hS1 : X1.heap[q]? = some (.cells #[.int .i64 x.gen, .int .i64 n, .slice A k c, .bool x.st, .int .i64 x.bh] 62 (0, 0)) := (hbel.block q HLT.out).trans hS
  refine ⟨_, rfl, hS1, ?_⟩
  clear hS
  have hS := hS1
  clear hS1
  have hown : X1.ownsRow W.drew.heap.size 5 1 v1 k (x.tm.map byC) := by have := hb1; unfold Bys at this; rw [HK.out] at this; exact this
  obtain ⟨v2, w2, hr, ho2, hgr⟩ := run_appendz X1 W.drew.heap.size 3 38 .i64 Tryz.underlying3 hown (n - k) (by have := HN.out; have := HN2.out; omega) hbel.size
  refine wpAnyH_all (rs := [9]) (by kernel_rfl) (by simp) ?_
  intro j hj
  obtain rfl : j = 9 := by simpa using hj
  refine opR_run (v := v2) (w' := w2) 12 rfl (by kernel_rfl) (by kernel_rfl) (exec_append_run (.tmp 5) (.tmp 11) 38 3 (by kernel_rfl) v1 (.int .i64 ((n - k : Nat) : Int)) (by kernel_rfl) (by kernel_rfl) hr) ?_
  have hbel2 : Below W.drew.heap.size W.drew w2 := hbel.grown hgr hbel.size (fun k hk => (hown.lt k hk).1)
  have hS2 : w2.heap[q]? = some (.cells #[.int .i64 x.gen, .int .i64 n, .slice A k c, .bool x.st, .int .i64 x.bh] 62 (0, 0)) := by
    rw [hbel2.block q HLT.out, ← hbel.block q HLT.out]
    exact hS
  refine ⟨hS2, ?_⟩
  clear hS
  have hS := hS2
  clear hS2
  refine takeR (i := 10) (v := v2) 2 rfl (by kernel_rfl) (by kernel_rfl) (by kernel_rfl) (by kernel_rfl) (fun _ _ _ h => h) (yields_pure (by kernel_rfl) (fun w => by kernel_rfl)) hS ?_
  refine wpAnyH_done (by kernel_rfl) ?_ _
  refine NoPanic.normal ?_
  simp only [Act.put, List.setIfInBounds_toArray, List.set_cons_succ, List.set_cons_zero]
  have HZ : Hid (∃ v', (Ending.returned v2) = .returned v' ∧ Bys w2 w.heap.size v' (fullB x) ∧ Below w.heap.size w w2) := Lib.hid (by
   rw [hq]
   exact ⟨v2, rfl, by
    have e1 : k + (n - k) = n := by have := HN.out; omega
    have e2 : (fullB x).length = n := by rw [HF.out, List.length_append, List.length_replicate, HK.out]; exact e1
    have h1 := ho2
    rw [e1] at h1
    unfold Bys
    rw [e2, HF.out, List.map_append, List.map_replicate]
    exact bys_low h1 (Nat.le_of_lt HLT.out), M1.out.trans (((Below.refl _ W).drew.trans hbel2).mono (Nat.le_of_lt HLT.out))⟩)
  clear hbel2 hgr ho2 hr hown hbel hb1 hbd hS HC
  go_wp2_with fail
  go_ret
  exact HZ.out
end Go.Proofs.YtpenejigebkkmaaGreat
