/-
  Layer 15: what a map tells, plain; a script's memory beside what a law owns.
  Conditions: none. (My own text.)
-/
import Derived.Test.YtlkelfaokbdddaaImm
import Derived.Test.YtlkelfaokbdddaaPlu
import Derived.Test.YtlkelfaokbdddaaPlv
import Derived.Test.YtlkelfaokbdddaaBo
namespace Go.Proofs.Ytlkelfaokbdddaa
open Go.RowKit Spm
set_option linter.unusedVariables false
set_option linter.unusedSimpArgs false

theorem ActsV.upP {w w2 : World} {B B2 : Nat} {v : Value} {l : List ActM} (h : ActsV w B v l) (hb : Below B w w2) (hB : B ≤ B2) : ActsV w2 B2 v l := by
  rcases h with h | ⟨b, off, c, h1, h2, h3, h4⟩
  · exact .inl h
  · refine .inr ⟨b, off, c, h1, by omega, h3, fun i m hi => ⟨⟨(h4 i m hi).1.rng, fun hn => ?_⟩, fun j u hu => (hb.cell (p := ⟨b, off + i * 5 + j, none⟩) h2).trans ((h4 i m hi).2 j u hu)⟩⟩
    obtain ⟨bb, o, k1, k2, k3⟩ := (h4 i m hi).1.src hn
    exact ⟨bb, o, k1, by omega, fun j x hj => (hb.cell (p := ⟨bb, o + j, none⟩) k2).trans (k3 j x hj)⟩
section
variable {B : Nat} {w w1 w' : World} {X Y : Res}
theorem Has.beside [hX : Fr X] [hY : Fr Y] (h : Has B w w1 Y) (m : Has w1.heap.size w1 w' X) : Has B w w' (Star X Y) :=
  h.add m.bel (by obtain ⟨F, h1, h2⟩ := m.own; exact hX.mono h1 (fun k hk _ => h2 k hk))
theorem played_beside [hY : Fr Y] (h : Has B w w1 Y) (v : Value) (l : List ActM) (hv : ActsV w B v l) :
    Calls Try.prog 9 #[v] w1 fun e w' => ∃ a, e = .returned (.pointer (some ⟨a, 0, none⟩)) ∧ Has B w w' (Star (Sp a (playS [] (l.map (·.x)))) Y) :=
  (played_any (Below.refl w1.heap.size w1) (Nat.le_refl _) v l (hv.upP h.bel h.le)).mono fun e w' ⟨a, e1, m⟩ => ⟨a, e1, h.beside (Has.of_mine m).left⟩
theorem both_beside [hY : Fr Y] (h : Has B w w1 Y) (v : Value) (l : List ActM) (hv : ActsV w B v l) :
    Calls Try.prog 18 #[v] w1 fun e w' => ∃ a c, e = .returned (.tuple #[.pointer (some ⟨a, 0, none⟩), .pointer (some ⟨c, 0, none⟩)]) ∧ Has B w w' (Star (Sp a (playS [] (l.map (·.x)))) (Star (Rf c (playS [] (l.map (·.x)))) Y)) :=
  (both15 (Below.refl w1.heap.size w1) (Nat.le_refl _) v l (hv.upP h.bel h.le)).mono fun e w' ⟨a, c, e1, m⟩ => ⟨a, c, e1,
    ((h.beside m).assoc.imp fun _ => Star.under fun _ hh => Star.under (fun _ h2 => (Star.comm h2 |> fun ⟨F1, F2, h1, _, _, g1, _⟩ => hY.mono h1 (fun k hk _ => g1 k hk))) (Star.assoc hh))⟩
end
/-- THE PLAIN LAW of a map: what it tells. -/
theorem map_info {L : List Rg} {l : List Sg} (h : Ok L) (hl : SegsOk l) {L4 : List Rg} {at4 e4 : Int} (hR : mapI L l = (L4, at4, e4)) :
    (e4 ≠ 0 → L4 = L ∧ at4 = 0 ∧ (e4 = 1 ∨ e4 = 3)) ∧
    (e4 = 0 → Ok L4 ∧ 4096 ≤ at4 ∧ (∀ s ∈ l, at4 + s.at_ + up s.sz ≤ 4294967296 ∧ stand at4 s ∈ L4) ∧ unAll L4 at4 l = L ∧ unErr L4 at4 0 l = 0 ∧ L4.length = L.length + l.length) ∧ I64 at4 := by
  have hs := map_same h hl
  rw [hR] at hs
  have hb := fun he => map_back h hl (by rw [hR]; exact he)
  rw [hR] at hb
  simp only at hb
  unfold mapR at hs
  by_cases he : (gapS L (extS l)).2 = 0
  · rw [if_neg (by simp [he])] at hs
    simp only [Prod.mk.injEq] at hs
    obtain ⟨h1, h2, h3⟩ := hs
    have hr := room_of h hl he
    rw [← h2] at h1 hr
    refine ⟨fun hn => absurd h3 hn, fun _ => ⟨?_, hr.b0, fun s hs => ⟨?_, ?_⟩, (hb h3).1, (hb h3).2.1, (hb h3).2.2⟩, ?_⟩
    · rw [h1]; exact refM_ok l L hr
    · have := (hr.each s hs).2
      have := hr.bE
      omega
    · rw [h1]; exact refM_stand l L hr s hs
    · have b1 := hr.b0
      obtain ⟨s, hs⟩ : ∃ s, s ∈ l := List.exists_mem_of_ne_nil l hl.n1
      have b2 := (hr.each s hs).2
      have b3 := (hr.each s hs).1.a0
      have b4 := up_ge s.sz (hr.each s hs).1.s0
      have b5 := (hr.each s hs).1.s0
      have b6 := hr.bE
      exact ⟨by omega, by omega⟩
  · rw [if_pos he] at hs
    simp only [Prod.mk.injEq] at hs
    obtain ⟨h1, h2, h3⟩ := hs
    refine ⟨fun _ => ⟨h1, h2, by rw [h3]; exact (gap_err he).2⟩, fun h0 => absurd (h3 ▸ h0) he, ?_⟩
    rw [h2]
    exact ⟨by decide, by decide⟩
theorem un_eq {L4 : List Rg} {at4 : Int} {l : List Sg} (hl : SegsOk l) (h0 : 4096 ≤ at4) (h : ∀ s ∈ l, at4 + s.at_ + up s.sz ≤ 4294967296) : unAllW L4 at4 l = unAll L4 at4 l ∧ unErrW at4 L4 0 l = unErr L4 at4 0 l := by
  have hw : ∀ s ∈ l, wrap64 (at4 + s.at_) = at4 + s.at_ := fun s hs => by
    have h1 := h s hs
    have h2 := (hl.each s hs).a0
    have h3 := up_ge s.sz (hl.each s hs).s0
    have h4 := (hl.each s hs).s0
    unfold wrap64
    omega
  exact ⟨unAllW_eq l L4 hw, unErrW_eq l L4 0 hw⟩
section
variable {P : Program} {ops : Array Oper} {S : World → Prop} {o : Oper} {a : Go.Act} {Q : Exit → Go.Act → World → Prop}
theorem yG_pure {v : Value} (hw : Region.wanted o (yielded ops a.tmps) = true) (h : ∀ w, (execOp a.eval o).run P w = .ok (.value v) w) : YieldsIf P ops S o v a := .inl ⟨hw, fun w _ => h w⟩
theorem yG_cell (hw : Region.wanted o (yielded ops a.tmps) = true) (ty : TypeId) (x : Operand) (ho : o.op = .load ty x) (g k : Nat) (hx : a.eval x = .pointer (some ⟨g, k, none⟩)) (v : Value)
    (hg : ∀ w, S w → w.cell? ⟨g, k, none⟩ = some v) (d : TypeDesc) (hu : P.underlying ty = some d) (hd : (match d with | .struct _ | .array _ _ => true | _ => false) = false) :
    YieldsIf P ops S o v a := .inl ⟨hw, fun w hS => by
  have hagg : (isAgg ty).run P w = .ok false w := by
    unfold isAgg
    rw [Sem.run_bind, run_underlying hu w]
    cases d <;> simp_all
  unfold execOp
  simp [ho, hx, Instr.loadAt, Instr.sureAddr, Sem.run_bind, loadVar, hagg, hg w hS]⟩
theorem yG_row (hw : Region.wanted o (yielded ops a.tmps) = true) (ty : TypeId) (x : Operand) (ho : o.op = .load ty x) (g : Nat) (hx : a.eval x = .pointer (some ⟨g, 0, none⟩)) (t : TypeId) (cs : Array Value) (d : TypeDesc)
    (hg : ∀ w, S w → Blk w g t cs) (hu : P.underlying ty = some d) (hd : (match d with | .struct _ | .array _ _ => true | _ => false) = true) (hi : (P.info? ty).map (·.size) = some cs.size) :
    YieldsIf P ops S o (.agg cs) a := .inl ⟨hw, fun w hS => by
  have hb : w.heap[g]? = some (.cells cs t (0, 0)) := hg w hS
  unfold execOp
  simp only [ho, hx, Instr.loadAt, Instr.sureAddr, Sem.run_bind, Sem.run_pure, Result.andThen_ok, run_loadVar_row w g t ty cs (0, 0) d hb hu hd hi]⟩
theorem yG_part (hw : Region.wanted o (yielded ops a.tmps) = true) (ty : TypeId) (x : Operand) (ho : o.op = .load ty x) (g k : Nat) (hx : a.eval x = .pointer (some ⟨g, k, none⟩)) (cs : Array Value) (d : TypeDesc)
    (hg : ∀ w, S w → ∀ j v, cs.toList[j]? = some v → w.cell? ⟨g, k + j, none⟩ = some v) (hu : P.underlying ty = some d) (hd : (match d with | .struct _ | .array _ _ => true | _ => false) = true) (hi : (P.info? ty).map (·.size) = some cs.size) :
    YieldsIf P ops S o (.agg cs) a := .inl ⟨hw, fun w hS => by
  unfold execOp
  simp only [ho, hx, Instr.loadAt, Instr.sureAddr, Sem.run_bind, Sem.run_pure, Result.andThen_ok, run_loadVar_part w g k ty cs d (hg w hS) hu hd hi]⟩
theorem yG_sl {t e : TypeId} (hw : Region.wanted o (yielded ops a.tmps) = true) (x ix : Operand) (ho : o.op = .indexAddr t x ix) (g k len cap j s : Nat) (hx : a.eval x = .slice (some ⟨g, k, none⟩) len cap) (hi : a.eval ix = .int .i64 j)
    (hu : P.underlying t = some (.slice e)) (hs : (P.info? e).map (·.size) = some s) (hj : j < len) : YieldsIf P ops S o (.pointer (some ⟨g, k + j * s, none⟩)) a := by
  exact .inl ⟨hw, fun w _ => by
      have he : P.elem t = e := by simp [Program.elem, hu]
      have hz : (sizeOf e).run P w = .ok s w := by
        cases hq : P.info? e with
        | none => simp [hq] at hs
        | some i =>
          have : i.size = s := by simpa [hq] using hs
          simp [sizeOf, typeInfo, hq, this]
      have h2 : (0 : Int) ≤ (j : Int) ∧ (j : Int) < (len : Int) := by omega
      unfold execOp
      simp only [ho, hx, hi, Sem.run_bind]
      rw [run_indexAt_slice w t ⟨g, k, none⟩ len cap .i64 j (by rw [he]; exact hu), he, if_pos h2, hz]
      simp [Addr.add]⟩
theorem runD {md : Region.Mode} {i : Nat} {fuel : Nat} {listed : Array Bool} {w w' : World} {v : Value} (dst : Nat) (hr : Region.ready md ops listed = [i]) (hi : ops[i]? = some o) (hd : o.dst = some dst) (hgd : o.guard = none)
    (hrun : (execOp a.eval o).run P w = .ok (.value v) w') (hS : S w') (h : wpAnyH P md ops Q S fuel (listed.setIfInBounds i true) (a.put (some dst) v) w') : wpAnyH P md ops Q S (fuel + 1) listed a w :=
  wpAnyH_all hr (by simp) (fun j hj => by
    obtain rfl : j = i := by simpa using hj
    exact wpOp_run hi hgd hrun ⟨hS, hd ▸ h⟩)
theorem storeD {md : Region.Mode} {i : Nat} {fuel : Nat} {listed : Array Bool} {w : World} (hr : Region.ready md ops listed = [i]) (hi : ops[i]? = some o) (hd : o.dst = none) (hgd : o.guard = none) (ty : TypeId) (x y : Operand) (ho : o.op = .store ty x y)
    (g : Nat) (cells : Array Value) (hx : a.eval x = .pointer (some ⟨g, 0, none⟩)) (hy : a.eval y = .agg cells)
    (t : TypeId) (old : Array Value) (hg : w.heap[g]? = some (.cells old t (0, 0))) (hsz : (P.info? ty).map (·.size) = some cells.size)
    (hold : old.size = cells.size) (h1 : cells.all (·.oneCell') = true) (hS : S (w.setRow g cells)) (h : wpAnyH P md ops Q S fuel (listed.setIfInBounds i true) a (w.setRow g cells)) : wpAnyH P md ops Q S (fuel + 1) listed a w :=
  wpAnyH_all hr (by simp) (fun j hj => by
    obtain rfl : j = i := by simpa using hj
    exact wpOp_store_row hi hgd ty x y ho g cells hx hy t old hg hsz hold h1 ⟨hS, hd ▸ h⟩)
end
end Go.Proofs.Ytlkelfaokbdddaa
