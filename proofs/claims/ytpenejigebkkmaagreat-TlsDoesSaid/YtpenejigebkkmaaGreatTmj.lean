/-
  Layer 17: tls.Register.
  Conditions: none. (My own text.)
-/
import Derived.Test.YtpenejigebkkmaaGreatTmi
namespace Go.Proofs.YtpenejigebkkmaaGreat
open Go.RowKit Spm
set_option linter.unusedVariables false
set_option linter.unusedSimpArgs false

attribute [local irreducible] wpList
open Go.Lib hiding intOf
set_option maxRecDepth 100000 in
set_option maxHeartbeats 1000000 in
theorem cloneA_any (ad : Addr) (n c : Nat) (cs : List Value) (w : World) (hl : cs.length = n * 1) (hbig : n * 1 ≤ 140737488355328) (hc : ∀ j u, cs[j]? = some u → w.cell? (ad.add j) = some u) (h1 : ∀ u ∈ cs, u.oneCell' = true) :
    Calls Tryz.prog 21 #[.slice (some ad) n c] w fun e w' => ∃ v', e = .returned v' ∧ w'.ownsRow w.heap.size 5 1 v' n cs ∧ Below w.heap.size w w' := by
  obtain ⟨i0, hi, hz0, hz1, hz2⟩ := info_parts cloneB_info
  have q22 : ∀ (w : World) (a : Option Addr) (n c n' c' : Nat), (binOp .eql 38 (.slice a n c) (.slice none n' c')).run Tryz.prog w = .ok (.bool a.isNone) w := fun w a n c n' c' => Lib.run_eql_slice_nil w _ _ a n c n' c' Tryz.underlying38
  have A : Hid (∀ j u, cs[j]? = some u → w.cell? (ad.add j) = some u) := hc
  have A1 := Lib.hid h1
  have A2 := Lib.hid hl
  clear hc h1 hl
  go_enter Tryz.func21, Tryz.ntmps21
  go_wp2_with (at_builtin; refine wpList_append_own _ rfl _ _ 38 rfl w.heap.size 5 i0 (.int .u8 0) 1 1 Tryz.underlying38 hi hz0 hz1 hz2 rfl (by decide) _ _ _ rfl (World.ownsRow_made w #[] 0 (Nat.le_refl _) (Nat.zero_le _) rfl) ad n c cs rfl ?qc1 ?qc2 ?qc3 ?qc4 ?qc5 ?qc6 ?_)
  case qc1 => exact A2.out
  case qc2 =>
    intro j u hj
    exact Lib.cell?_alloc_some _ (A.out j u hj)
  case qc3 => exact A1.out
  case qc4 => unfold maxLen; omega
  case qc5 => omega
  case qc6 => simp
  intro v' w1 hown hgrow hnil
  go_wp2
  go_ret
  refine ⟨v', rfl, by simpa using hown, ?_⟩
  exact ((Below.refl _ w).alloc (Nat.le_refl _) _).grown hgrow (by simp) (by intro k hk; simp [Value.ownBlock] at hk; omega)
theorem clone_src {w : World} {A : Option Addr} {c : Nat} {l : List UInt8} (h : SrcB w A l) (hl : l.length ≤ 1000000) : Calls Tryz.prog 21 #[.slice A l.length c] w fun e w' => ∃ v', e = .returned v' ∧ Bys w' w.heap.size v' l ∧ Below w.heap.size w w' := by
  cases A with
  | none =>
    have : l = [] := by
      cases l with
      | nil => rfl
      | cons x l => obtain ⟨b, o, hh, _⟩ := h (by simp); cases hh
    subst this
    refine (cloneB_nil 0 c w).mono ?_
    rintro e w' ⟨rfl, rfl⟩
    exact ⟨_, rfl, World.ownsRow_nil w _ _ _, Below.refl _ _⟩
  | some ad =>
    refine (cloneA_any ad l.length c (l.map byC) w (by simp) (by omega) (fun j u hj => ?_) (byC_one l)).mono ?_
    · have hne : l ≠ [] := by rintro rfl; simp at hj
      obtain ⟨b, o, hh, hc⟩ := h hne
      cases hh
      rw [List.getElem?_map] at hj
      cases hx : l[j]? with
      | none => rw [hx] at hj; simp at hj
      | some x =>
        rw [hx] at hj
        simp only [Option.map_some, Option.some.injEq] at hj
        rw [Addr.add_lit, ← hj]
        exact hc j x hx
    · rintro e w' ⟨v', rfl, h1, h2⟩
      exact ⟨v', rfl, h1, h2⟩
theorem yields_mlook1 {P : Program} {ops : Array Oper} {S : World → Prop} {o : Oper} {a : Go.Act} (hgd : o.guard = none) (T K E : TypeId) {q : IntKind} (m x : Operand) (ho : o.op = .lookup T m x false) (hT : P.underlying T = some (.map K E)) (hK : P.underlying K = some (.int q)) (g : Nat) (l : List Ent) (c : Nat) (hm : a.eval m = .map (some g)) (k : Int) (hx : a.eval x = .int .i64 k)
    (z v : Value) (hz : ∀ w : World, (zeroValue E).run P w = .ok z w) (hv : (mget l k).getD z = v) (hg : ∀ w, S w → w.heap[g]? = some (.map (l.map entM).toArray c)) : YieldsIf P ops S o v a := .inl ⟨by simp [Region.wanted, hgd], fun w hS => by
  have := exec_mlook (P := P) ho hT hK hm hx (hg w hS) hz
  rw [this, ← hv]
  rfl⟩
theorem wpList_fieldK {P : Program} {ops : Array Oper} {rest : List Oper} {o : Oper} {a : Go.Act} {Q : Exit → Go.Act → World → Prop} {w : World} (hgd : o.guard = none) (T : TypeId) (x : Operand) (k : Nat) (ho : o.op = .field T x k) (V v : Value) (hx : a.eval x = V) (hr : (Instr.field T V k).run P w = .ok v w) (h : wpList P ops Q rest (a.put o.dst v) w) : wpList P ops Q (o :: rest) a w :=
  wpList_ran hgd (by
    unfold execOp
    rw [ho]
    simp only [hx, Sem.run_bind, hr, Result.andThen_ok]
    rfl) h
set_option maxRecDepth 100000 in
theorem z_fd1 (x : Mdl) (v : Value) (w : World) : (Instr.field 62 (.agg (mdA x v)) 1).run Tryz.prog w = .ok (.int .i64 x.size) w := by kernel_rfl
set_option maxRecDepth 100000 in
theorem z_fd0 (w : World) : (Instr.field 62 (.agg #[.int .i64 0, .int .i64 0, .slice none 0 0, .bool false, .int .i64 0]) 1).run Tryz.prog w = .ok (.int .i64 0) w := by kernel_rfl
theorem opR_skip {P : Program} {ops : Array Oper} {o : Oper} {a : Go.Act} {Q : Exit → Go.Act → World → Prop} {i : Nat} {w w' : World} {K : Go.Act → World → Prop} (hi : ops[i]? = some o) (hd : o.dst = none) (hgd : o.guard = none) (hrun : (execOp a.eval o).run P w = .ok .skip w') (h : K (a.put none undef) w') : wpOp P ops Q i K a w := by
  rw [← hd] at h
  unfold wpOp
  simp only [hi]
  rw [if_pos (by simp [Region.wanted, hgd])]
  refine .inl ?_
  unfold Oper.wp
  rw [hrun, Oper.upon_skip]
  exact h
theorem opR_cell {P : Program} {ops : Array Oper} {o : Oper} {a : Go.Act} {Q : Exit → Go.Act → World → Prop} {i : Nat} {w : World} {K : Go.Act → World → Prop} (hi : ops[i]? = some o) (hd : o.dst = none) (hgd : o.guard = none) (ty : TypeId) (x y : Operand) (ho : o.op = .store ty x y) (g k : Nat) (z : Int) (old : Value) {q : IntKind} (hx : a.eval x = .pointer (some ⟨g, k, none⟩)) (hy : a.eval y = .int .i64 z) (hc : w.cell? ⟨g, k, none⟩ = some old) (hf : w.frozen? ⟨g, k, none⟩ = false) (hu : P.underlying ty = some (.int q)) (hs : (P.info? ty).map (·.size) = some 1) (h : K (a.put none undef) (w.setCell ⟨g, k, none⟩ (.int .i64 z))) : wpOp P ops Q i K a w :=
  opR_skip hi hd hgd (by
    have hz : (sizeOf ty).run P w = .ok 1 w := by
      cases hq : P.info? ty with
      | none => simp [hq] at hs
      | some i =>
        have : i.size = 1 := by simpa [hq] using hs
        simp [sizeOf, typeInfo, hq, this]
    have hadd : (⟨g, k, none⟩ : Addr).add 0 = ⟨g, k, none⟩ := rfl
    have hst : (store ⟨g, k, none⟩ (.int .i64 z)).run P w = .ok () (w.setCell ⟨g, k, none⟩ (.int .i64 z)) := by
      rw [run_store _ _ _ _ _ rfl, hc]
      simp [hf]
    unfold execOp
    simp [ho, hx, hy, Instr.storeAt, Instr.sureAddr, storeVar, hz, Value.cells, storeCells, hadd, hst]) h
theorem exec_load_cell {P : Program} {o : Oper} {a : Go.Act} {w : World} (ty : TypeId) (x : Operand) (ho : o.op = .load ty x) (g k : Nat) (hx : a.eval x = .pointer (some ⟨g, k, none⟩)) (v : Value) (hg : w.cell? ⟨g, k, none⟩ = some v) (d : TypeDesc) (hu : P.underlying ty = some d) (hd : (match d with | .struct _ | .array _ _ => true | _ => false) = false) : (execOp a.eval o).run P w = .ok (.value v) w := by
  have hagg : (isAgg ty).run P w = .ok false w := by
    unfold isAgg
    rw [Sem.run_bind, run_underlying hu w]
    cases d <;> simp_all
  unfold execOp
  simp [ho, hx, Instr.loadAt, Instr.sureAddr, Sem.run_bind, loadVar, hagg, hg]
/-- A module's size by its number; the number of times one was given, set. -/
def mszS (l : List MdE) (n : Int) : Int := ((efind MdE.k l n).map fun y => y.x.size).getD 0
def gsetL (t : Ts) (n v : Int) : List GnE := eset GnE.k GnE.b (fun b => (⟨n, v, b⟩ : GnE)) t.gc t.gl n
def gsetT (t : Ts) (n v : Int) : Ts := { t with gl := gsetL t n v, gc := mclk (t.gl.map GnE.ent) n t.gc }
theorem gsetL_m (t : Ts) (n v : Int) : mset (t.gl.map GnE.ent) n (.int .i64 v) t.gc = (gsetL t n v).map GnE.ent :=
  mset_eset (ent := GnE.ent) (key := GnE.k) (st := GnE.b) (fun _ => rfl) (fun _ => rfl) (k := n) (v := .int .i64 v) (mk := fun b => (⟨n, v, b⟩ : GnE)) (fun _ => rfl) t.gc t.gl
theorem gget_gset (t : Ts) (n v x : Int) : gget (gsetL t n v) x = if x = n then v else gget t.gl x := by
  have h1 := gget_m (gsetL t n v) x
  rw [← gsetL_m, mget_set] at h1
  by_cases hx : x = n
  · rw [if_pos hx] at h1 ⊢
    simp only [Option.getD_some, Value.int.injEq, true_and] at h1
    exact h1.symm
  · rw [if_neg hx] at h1 ⊢
    rw [gget_m] at h1
    simp only [Value.int.injEq, true_and] at h1
    exact h1.symm
theorem mdz_sz (l : List MdE) (n : Int) : (mget (l.map MdE.ent) n).getD (.agg #[.int .i64 0, .int .i64 0, .slice none 0 0, .bool false, .int .i64 0]) = .agg (match efind MdE.k l n with | some y => mdA y.x y.v | none => #[.int .i64 0, .int .i64 0, .slice none 0 0, .bool false, .int .i64 0]) := by
  rw [mget_efind (key := MdE.k) (fun _ => rfl)]
  cases efind MdE.k l n <;> rfl
/-- The modules' numbers. -/
def MdsKey (l : List MdE) : Prop := ∀ y ∈ l, y.k ≤ 64 ∧ 1 ≤ y.x.size
theorem efind_mem {α : Type} {key : α → Int} {k : Int} {x : α} {l : List α} (h : efind key l k = some x) : x ∈ l ∧ key x = k := by
  obtain ⟨l1, l2, rfl, -, h2, -⟩ := efind_split h
  exact ⟨by simp, h2⟩
theorem mszS_pos {l : List MdE} (h : MdsKey l) {n : Int} (hp : 0 < mszS l n) : n ≤ 64 := by
  unfold mszS at hp
  cases hf : efind MdE.k l n with
  | none => rw [hf] at hp; exact absurd hp (by decide)
  | some y =>
    obtain ⟨h1, h2⟩ := efind_mem hf
    have := (h y h1).1
    omega
theorem mszS_none {l : List MdE} (h : MdsKey l) {n : Int} (hp : ¬ 0 < mszS l n) : efind MdE.k l n = none := by
  cases hf : efind MdE.k l n with
  | none => rfl
  | some y =>
    obtain ⟨h1, h2⟩ := efind_mem hf
    have := (h y h1).2
    unfold mszS at hp
    rw [hf] at hp
    exact absurd (show 0 < y.x.size by omega) hp
/-- The least number that is free. -/
def FreeN (l : List MdE) (n : Int) : Prop := 1 ≤ n ∧ n ≤ 65 ∧ (∀ k, 1 ≤ k → k < n → 0 < mszS l k) ∧ ¬ 0 < mszS l n
def newM (t : Ts) (n : Int) (tm : List UInt8) (size : Int) (st : Bool) (v : Value) : MdE := ⟨n, ⟨wrap64 (gget t.gl n + 1), size, tm, st, if st = true then t.ar else 0⟩, v, t.mc⟩
def regT (t : Ts) (n : Int) (tm : List UInt8) (size : Int) (st : Bool) (v : Value) : Ts := { gsetT t n (wrap64 (gget t.gl n + 1)) with ml := t.ml ++ [newM t n tm size st v], mc := t.mc + 1, ar := if st = true then wrap64 (t.ar + upT size) else t.ar }
def RegE (s : Nat) (t : Ts) (Y : Res) (B : Nat) (w : World) (tm : List UInt8) (size : Int) (st : Bool) (e : Ending) (w' : World) : Prop :=
  if size < 1 ∨ 4096 < size ∨ size < tm.length then e = .returned (.tuple #[.int .i64 0, .int .i64 1]) ∧ Has B w w' (Tl s t Y)
  else if st = true ∧ t.sd = true then e = .returned (.tuple #[.int .i64 0, .int .i64 172]) ∧ Has B w w' (Tl s t Y)
  else ∃ n, FreeN t.ml n ∧ (if 64 < n then e = .returned (.tuple #[.int .i64 0, .int .i64 3]) ∧ Has B w w' (Tl s t Y)
    else if st = true ∧ wrap64 (4096 - t.ar) < upT size then e = .returned (.tuple #[.int .i64 0, .int .i64 3]) ∧ Has B w w' (Tl s (gsetT (gsetT t n (wrap64 (gget t.gl n + 1))) n (wrap64 (wrap64 (gget t.gl n + 1) - 1))) Y)
    else e = .returned (.tuple #[.int .i64 n, .int .i64 0]) ∧ ∃ v, Has B w w' (Tl s (regT t n tm size st v) Y))
set_option maxRecDepth 100000 in
set_option maxHeartbeats 4000000 in
theorem treg_any {B : Nat} {w wr : World} {Y : Res} [hY : Fr Y] {s : Nat} {t : Ts} (h : Has B w wr (Tl s t Y)) (hmk : MdsKey t.ml) {A : Option Addr} {c : Nat} {tm : List UInt8} (hsrc : SrcB wr A tm) (hne : tm ≠ [] → ∀ p, A = some p → p.block ≠ t.gg) (size : Int) (st : Bool) : Calls Tryz.prog 9 #[.pointer (some ⟨s, 0, none⟩), .slice A tm.length c, .int .i64 size, .bool st] wr (RegE s t Y B w tm size st) := by
  have M0 := Lib.hid h
  have HMK := Lib.hid hmk
  have HSR := Lib.hid hsrc
  have HNE := Lib.hid hne
  have s3 : wr.cell? ⟨s, 3, none⟩ = some (.bool t.sd) := M0.out.cellat s 3 rfl
  clear h hmk hsrc hne
  obtain ⟨k, hk⟩ : ∃ k, tm.length = k := ⟨_, rfl⟩
  have HK := Lib.hid hk
  rw [hk]
  clear hk
  by_cases h1 : size < 1
  · have HE : Hid (RegE s t Y B w tm size st (.returned (.tuple #[.int .i64 0, .int .i64 1])) wr) := Lib.hid (by unfold RegE; rw [if_pos (.inl h1)]; exact ⟨rfl, M0.out⟩)
    go_enter Tryz.func9, Tryz.ntmps9
    go_wp2_with fail
    go_ret2
    exact HE.out
  by_cases h2 : 4096 < size
  · have HE : Hid (RegE s t Y B w tm size st (.returned (.tuple #[.int .i64 0, .int .i64 1])) wr) := Lib.hid (by unfold RegE; rw [if_pos (.inr (.inl h2))]; exact ⟨rfl, M0.out⟩)
    go_enter Tryz.func9, Tryz.ntmps9
    go_wp2_with fail
    go_ret2
    exact HE.out
  by_cases h3 : size < k
  · have HE : Hid (RegE s t Y B w tm size st (.returned (.tuple #[.int .i64 0, .int .i64 1])) wr) := Lib.hid (by unfold RegE; rw [if_pos (.inr (.inr (by rw [HK.out]; exact h3)))]; exact ⟨rfl, M0.out⟩)
    go_enter Tryz.func9, Tryz.ntmps9
    go_wp2_with fail
    go_ret2
    exact HE.out
  have HBAD : Hid (¬ (size < 1 ∨ 4096 < size ∨ size < tm.length)) := Lib.hid (by rw [HK.out]; omega)
  by_cases h4 : st = true ∧ t.sd = true
  · have HE : Hid (RegE s t Y B w tm size st (.returned (.tuple #[.int .i64 0, .int .i64 172])) wr) := Lib.hid (by unfold RegE; rw [if_neg HBAD.out, if_pos h4]; exact ⟨rfl, M0.out⟩)
    obtain ⟨e1, e2⟩ := h4
    rw [e2] at s3
    subst e1
    go_enter Tryz.func9, Tryz.ntmps9
    go_wp2_with fail
    go_ret2
    exact HE.out
  have HN4 := Lib.hid h4
  cases st with
  | false =>
    skip
    clear s3
    have HHE : Hid (∀ e w', (∃ n, FreeN t.ml n ∧ (if 64 < n then e = .returned (.tuple #[.int .i64 0, .int .i64 3]) ∧ Has B w w' (Tl s t Y)
        else if false = true ∧ wrap64 (4096 - t.ar) < upT size then e = .returned (.tuple #[.int .i64 0, .int .i64 3]) ∧ Has B w w' (Tl s (gsetT (gsetT t n (wrap64 (gget t.gl n + 1))) n (wrap64 (wrap64 (gget t.gl n + 1) - 1))) Y)
        else e = .returned (.tuple #[.int .i64 n, .int .i64 0]) ∧ ∃ v, Has B w w' (Tl s (regT t n tm size false v) Y))) → RegE s t Y B w tm size false e w') := Lib.hid (fun e w' hh => by unfold RegE; rw [if_neg HBAD.out, if_neg HN4.out]; exact hh)
    clear h4
    go_enter Tryz.func9, Tryz.ntmps9
    go_upto_region 6 with fail
    go_loopw [10] (fun i wr => ∃ n : Int, i = .int .i64 n ∧ 1 ≤ n ∧ n ≤ 65 ∧ Hid (∀ k, 1 ≤ k → k < n → 0 < mszS t.ml k) ∧ Hid (Has B w wr (Tl s t Y)) ∧ Hid (SrcB wr A tm)) (fun i _ => (65 - intOf i).toNat)
    case atStart => exact ⟨1, rfl, by omega, by omega, Lib.hid (fun k h1 h2 => by omega), M0, HSR⟩
    case round =>
      clear M0 HSR
      obtain ⟨n, rfl, hn1, hn2, HB4, M8, HSR⟩ := hrel
      obtain ⟨w8, hw8⟩ : ∃ w8, w8 = wr := ⟨_, rfl⟩
      rw [← hw8] at M8 HSR ⊢
      clear hw8
      have s0 : w8.cell? ⟨s, 0, none⟩ = some (.map (some t.gm)) := M8.out.cellat s 0 rfl
      have hmz := mdz_sz t.ml n
      cases hf : efind MdE.k t.ml n with
      | some y =>
        rw [hf] at hmz
        have hpos : 0 < y.x.size := by have := (HMK.out y (efind_mem hf).1).2; omega
        have hn3 : n ≤ 64 := by have := (HMK.out y (efind_mem hf).1).1; have := (efind_mem hf).2; omega
        have HB5 : Hid (∀ k, 1 ≤ k → k < n + 1 → 0 < mszS t.ml k) := Lib.hid (fun k h1 h2 => by
          by_cases hkn : k = n
          · subst hkn; unfold mszS; rw [hf]; exact hpos
          · exact HB4.out k h1 (by omega))
        have hw1 : IntKind.i64.wrap (n + 1) = n + 1 := by rw [IntKind.wrap_i64]; omega
        clear hf
        go_wp2_with (first | (refine wpList_mlookV rfl 52 3 62 _ _ rfl Tryz.underlying52 Tryz.underlying3 t.gm _ _ rfl n rfl (M8.out.getm t.gm) (.agg #[.int .i64 0, .int .i64 0, .slice none 0 0, .bool false, .int .i64 0]) z_mod (.agg (mdA y.x y.v)) hmz ?_) | (refine wpList_fieldK rfl 62 _ 1 rfl (.agg (mdA y.x y.v)) (.int .i64 y.x.size) rfl (z_fd1 _ _ _) ?_))
        first
          | (go_round
             case rel => exact ⟨n + 1, by first | rfl | (congr 1; unfold wrap64; omega), by omega, by omega, HB5, M8, HSR⟩
             case measure => simp [intOf]; omega)
          | (refine ⟨⟨n + 1, by first | rfl | (congr 1; unfold wrap64; omega), by omega, by omega, HB5, M8, HSR⟩, ?_⟩
             simp [intOf]; omega)
      | none =>
        rw [hf] at hmz
        have HFR : Hid (FreeN t.ml n) := Lib.hid ⟨hn1, hn2, HB4.out, by unfold mszS; rw [hf]; decide⟩
        have HFN := Lib.hid hf
        clear hf
        by_cases h64 : 64 < n
        · have HE : Hid (RegE s t Y B w tm size false (.returned (.tuple #[.int .i64 0, .int .i64 3])) w8) := Lib.hid (HHE.out _ _ ⟨n, HFR.out, by rw [if_pos h64]; exact ⟨rfl, M8.out⟩⟩)
          go_wp2_with (first | (refine wpList_mlookV rfl 52 3 62 _ _ rfl Tryz.underlying52 Tryz.underlying3 t.gm _ _ rfl n rfl (M8.out.getm t.gm) (.agg #[.int .i64 0, .int .i64 0, .slice none 0 0, .bool false, .int .i64 0]) z_mod (.agg #[.int .i64 0, .int .i64 0, .slice none 0 0, .bool false, .int .i64 0]) hmz ?_) | (refine wpList_fieldK rfl 62 _ 1 rfl (.agg #[.int .i64 0, .int .i64 0, .slice none 0 0, .bool false, .int .i64 0]) (.int .i64 0) rfl (z_fd0 _) ?_))
          go_ret2
          exact HE.out
        have s1 : w8.cell? ⟨s, 1, none⟩ = some (.map (some t.gg)) := M8.out.cellat s 1 rfl
        have Ma := Lib.hid (M8.out.setm t.gg (mset (t.gl.map GnE.ent) n (.int .i64 (wrap64 (gget t.gl n + 1))) t.gc) (mclk (t.gl.map GnE.ent) n t.gc))
        have M1 : Hid (Has B w (World.putO w8 t.gg (.map ((mset (t.gl.map GnE.ent) n (.int .i64 (wrap64 (gget t.gl n + 1))) t.gc).map entM).toArray (mclk (t.gl.map GnE.ent) n t.gc))) (Star (Cel s 56 t.arr) (Star (Mp t.gm (t.ml.map MdE.ent) t.mc) (Star (Mp t.gg ((gsetL t n (wrap64 (gget t.gl n + 1))).map GnE.ent) (mclk (t.gl.map GnE.ent) n t.gc)) (Star (Mp t.gt (t.tl.map ThE.ent) t.tc) (Star (All mdR t.ml) (Star (All thR t.tl) Y))))))) := Lib.hid (by
          have h1 := Ma.out
          have e1 := gsetL_m t n (wrap64 (gget t.gl n + 1))
          rw [e1] at h1 ⊢
          exact h1)
        clear Ma
        go_upto_region 11 with (first | (refine wpList_mlookV rfl 52 3 62 _ _ rfl Tryz.underlying52 Tryz.underlying3 t.gm _ _ rfl n rfl (M8.out.getm t.gm) (.agg #[.int .i64 0, .int .i64 0, .slice none 0 0, .bool false, .int .i64 0]) z_mod (.agg #[.int .i64 0, .int .i64 0, .slice none 0 0, .bool false, .int .i64 0]) hmz ?_) | (refine wpList_fieldK rfl 62 _ 1 rfl (.agg #[.int .i64 0, .int .i64 0, .slice none 0 0, .bool false, .int .i64 0]) (.int .i64 0) rfl (z_fd0 _) ?_) | (refine wpList_mlookV rfl 53 3 3 _ _ rfl Tryz.underlying53 Tryz.underlying3 t.gg _ _ rfl n rfl (M8.out.getm t.gg) (.int .i64 0) z_int (.int .i64 (gget t.gl n)) (gget_m t.gl n) ?_) | (refine wpList_mset rfl 53 3 3 _ _ _ rfl Tryz.underlying53 Tryz.underlying3 t.gg _ t.gc rfl n rfl (.int .i64 (wrap64 (gget t.gl n + 1))) rfl (M8.out.getm t.gg) ?_))
        obtain ⟨W1, hW⟩ : ∃ W1, (World.putO w8 t.gg (.map ((mset (t.gl.map GnE.ent) n (.int .i64 (wrap64 (gget t.gl n + 1))) t.gc).map entM).toArray (mclk (t.gl.map GnE.ent) n t.gc))) = W1 := ⟨_, rfl⟩
        have HSR1 : Hid (SrcB W1 A tm) := Lib.hid (by
          rw [← hW]
          intro hne
          obtain ⟨bb, off, hA, hc⟩ := HSR.out hne
          exact ⟨bb, off, hA, fun j x hj => by
            have h9 := HNE.out hne _ hA
            have h8 := hc j x hj
            rw [← h8]
            exact World.cell?_of_block (putO_other (fun e => h9 e))⟩)
        rw [hW] at M1 ⊢
        clear hW s0 s1 hmz M8 HSR
        have SS : Hid ((fun X : World => Blk X s 56 t.arr ∧ X.heap[t.gg]? = some (.map (((gsetL t n (wrap64 (gget t.gl n + 1))).map GnE.ent).map entM).toArray (mclk (t.gl.map GnE.ent) n t.gc))) W1.drew) := Lib.hid ⟨M1.out.getc s, M1.out.getm t.gg⟩
        have HC1 : Hid (∀ X : World, Blk X s 56 t.arr → X.cell? ⟨s, 1, none⟩ = some (.map (some t.gg))) := Lib.hid (fun X h => by rw [h.cell]; rfl)
        have HGV : Hid ((mget ((gsetL t n (wrap64 (gget t.gl n + 1))).map GnE.ent) n).getD (.int .i64 0) = .int .i64 (wrap64 (gget t.gl n + 1))) := Lib.hid (by rw [gget_m, gget_gset, if_pos rfl])
        obtain ⟨g1, hg1⟩ : ∃ g1, wrap64 (gget t.gl n + 1) = g1 := ⟨_, rfl⟩
        rw [hg1] at M1 SS HGV ⊢
        have HG1 := Lib.hid hg1
        clear hg1
        refine wp_region_noPanic ?_
        refine wp_region_held_drew (S := fun X : World => Blk X s 56 t.arr ∧ X.heap[t.gg]? = some (.map (((gsetL t n g1).map GnE.ent).map entM).toArray (mclk (t.gl.map GnE.ent) n t.gc))) (by kernel_rfl) SS.out ?_
        clear SS
        intro hS
        refine takeR (i := 0) (v := .pointer (some ⟨s, 0, none⟩)) 50 rfl (by kernel_rfl) (by kernel_rfl) (by kernel_rfl) (by kernel_rfl) (fun _ _ _ h => h) (yields_pure (by kernel_rfl) (fun w => by kernel_rfl)) hS ?_
        refine takeR (i := 1) (v := .pointer (some ⟨s, 0, none⟩)) 51 rfl (by kernel_rfl) (by kernel_rfl) (by kernel_rfl) (by kernel_rfl) (fun _ _ _ h => h) (yields_pure (by kernel_rfl) (fun w => by kernel_rfl)) hS ?_
        refine takeR (i := 2) (v := .pointer (some ⟨s, 1, none⟩)) 52 rfl (by kernel_rfl) (by kernel_rfl) (by kernel_rfl) (by kernel_rfl) (fun _ _ _ h => h) (yields_pure (by kernel_rfl) (fun w => by kernel_rfl)) hS ?_
        refine takeR (i := 3) 53 rfl (by kernel_rfl) (by kernel_rfl) (by kernel_rfl) (by kernel_rfl) (fun _ _ _ h => h) (yields_load_cell (by kernel_rfl) 53 _ rfl s 1 (by kernel_rfl) (.map (some t.gg)) (fun X h => HC1.out X h.1) _ Tryz.underlying53 rfl) hS ?_
        refine takeR (i := 4) (v := .int .i64 n) 54 rfl (by kernel_rfl) (by kernel_rfl) (by kernel_rfl) (by kernel_rfl) (fun _ _ _ h => h) (yields_pure (by kernel_rfl) (fun w => by kernel_rfl)) hS ?_
        refine takeR (i := 5) 55 rfl (by kernel_rfl) (by kernel_rfl) (by kernel_rfl) (by kernel_rfl) (fun _ _ _ h => h) (yields_mlook1 (by kernel_rfl) 53 3 3 _ _ rfl Tryz.underlying53 Tryz.underlying3 t.gg ((gsetL t n g1).map GnE.ent) _ (by kernel_rfl) n (by kernel_rfl) (.int .i64 0) (.int .i64 g1) z_int HGV.out (fun X h => h.2)) hS ?_
        refine takeR (i := 6) (v := .int .i64 size) 56 rfl (by kernel_rfl) (by kernel_rfl) (by kernel_rfl) (by kernel_rfl) (fun _ _ _ h => h) (yields_pure (by kernel_rfl) (fun w => by kernel_rfl)) hS ?_
        refine takeR (i := 7) (v := .slice A k c) 57 rfl (by kernel_rfl) (by kernel_rfl) (by kernel_rfl) (by kernel_rfl) (fun _ _ _ h => h) (yields_pure (by kernel_rfl) (fun w => by kernel_rfl)) hS ?_
        refine takeR (i := 9) (v := .bool false) 59 rfl (by kernel_rfl) (by kernel_rfl) (by kernel_rfl) (by kernel_rfl) (fun _ _ _ h => h) (yields_pure (by kernel_rfl) (fun w => by kernel_rfl)) hS ?_
        have M1d := Lib.hid (M1.out.stay ((Below.refl _ W1).drew))
        have SC : Hid (∀ X : World, Has B w X (Star (Cel s 56 t.arr) (Star (Mp t.gm (t.ml.map MdE.ent) t.mc) (Star (Mp t.gg ((gsetL t n g1).map GnE.ent) (mclk (t.gl.map GnE.ent) n t.gc)) (Star (Mp t.gt (t.tl.map ThE.ent) t.tc) (Star (All mdR t.ml) (Star (All thR t.tl) Y)))))) → Blk X s 56 t.arr ∧ X.heap[t.gg]? = some (.map (((gsetL t n g1).map GnE.ent).map entM).toArray (mclk (t.gl.map GnE.ent) n t.gc))) := Lib.hid (fun X hh => ⟨hh.getc s, hh.getm t.gg⟩)
        have HFULL : Hid (¬ (false = true ∧ wrap64 (4096 - t.ar) < upT size)) := Lib.hid (fun hh => absurd hh.1 (by decide))
        refine wpAnyH_all (rs := [8, 11]) (by kernel_rfl) (by simp) ?_
        intro j hj
        obtain rfl | rfl : j = 8 ∨ j = 11 := by simpa using hj
        focus
          have hsr : SrcB W1.drew A tm := HSR1.out
          have C1 := clone_src (c := c) hsr (by rw [HK.out]; omega)
          rw [HK.out] at C1
          refine opR_call 58 rfl rfl (by kernel_rfl) _ _ _ rfl _ (by kernel_rfl) (C1.mono ?_)
          rintro e X1 ⟨v1, rfl, hb1, hbel⟩
          obtain ⟨uA, uc, hu, -, -⟩ := hb1.src
          rw [HK.out] at hu
          subst hu
          have Ne := Lib.hid (M1d.out.bytes hb1 hbel)
          refine ⟨_, rfl, SC.out _ Ne.out.right, ?_⟩
          clear hS
          have hS := SC.out _ Ne.out.right
          clear hb1 hbel hsr C1
          refine takeR (i := 10) (v := .agg #[.int .i64 g1, .int .i64 size, (.slice uA k uc), .bool false, .int .i64 (0)]) 60 rfl (by kernel_rfl) (by kernel_rfl) (by kernel_rfl) (by kernel_rfl) (fun _ _ _ h => h) (yields_pure (by kernel_rfl) (fun w => by kernel_rfl)) hS ?_
          have Nf := Lib.hid (Ne.out.newcel 62 #[.int .i64 0, .int .i64 0, .slice none 0 0, .bool false, .int .i64 0])
          refine wpAnyH_all (rs := [11]) (by kernel_rfl) (by simp) ?_
          intro j hj
          obtain rfl : j = 11 := by simpa using hj
          refine opR_run (v := .pointer (some ⟨X1.heap.size, 0, none⟩)) (w' := X1.alloc (.cells #[.int .i64 0, .int .i64 0, .slice none 0 0, .bool false, .int .i64 0] 62)) 11 rfl (by kernel_rfl) (by kernel_rfl) (by kernel_rfl) ?_
          refine ⟨SC.out _ Nf.out.right.right, ?_⟩
          have Ng := Lib.hid (Nf.out.rowc X1.heap.size #[.int .i64 g1, .int .i64 size, (.slice uA k uc), .bool false, .int .i64 (0)])
          refine wpAnyH_all (rs := [12]) (by kernel_rfl) (by simp) ?_
          intro j hj
          obtain rfl : j = 12 := by simpa using hj
          refine opR_store rfl (by kernel_rfl) (by kernel_rfl) 62 _ _ rfl X1.heap.size #[.int .i64 g1, .int .i64 size, (.slice uA k uc), .bool false, .int .i64 (0)] (by kernel_rfl) (by kernel_rfl) 62 #[.int .i64 0, .int .i64 0, .slice none 0 0, .bool false, .int .i64 0] (Nf.out.getc _) (by kernel_rfl) rfl (by kernel_rfl) ?_
          refine ⟨SC.out _ Ng.out.right.right, ?_⟩
          refine wpAnyH_done (by kernel_rfl) ?_ _
          refine NoPanic.normal ?_
          simp only [Act.put, List.setIfInBounds_toArray, List.set_cons_succ, List.set_cons_zero]
          obtain ⟨W2, hW⟩ : ∃ W2, (X1.alloc (.cells #[.int .i64 0, .int .i64 0, .slice none 0 0, .bool false, .int .i64 0] 62)).setRow X1.heap.size #[.int .i64 g1, .int .i64 size, (.slice uA k uc), .bool false, .int .i64 (0)] = W2 := ⟨_, rfl⟩
          rw [hW] at Ng ⊢
          have Nn := Ng
          clear hW Ng Nf Ne hS SC M1d
          generalize X1.heap.size = x11 at Nn ⊢
          go_upto_region 18 with fail
          have Nu := Lib.hid (Nn.out.stay ((Below.refl _ W2).drew))
          have Nv := Lib.hid (Nu.out.setm t.gm (mset (t.ml.map MdE.ent) n (.agg #[.int .i64 g1, .int .i64 size, (.slice uA k uc), .bool false, .int .i64 (0)]) t.mc) (mclk (t.ml.map MdE.ent) n t.mc))
          have HC0 : Hid (∀ X : World, Blk X s 56 t.arr → X.cell? ⟨s, 0, none⟩ = some (.map (some t.gm))) := Lib.hid (fun X h => by rw [h.cell]; rfl)
          have hS0 : (fun X : World => Blk X s 56 t.arr ∧ Blk X x11 62 #[.int .i64 g1, .int .i64 size, (.slice uA k uc), .bool false, .int .i64 (0)]) W2.drew := ⟨Nu.out.getc s, Nu.out.getc x11⟩
          refine wp_region_noPanic ?_
          refine wp_region_held_drew (S := (fun X : World => Blk X s 56 t.arr ∧ Blk X x11 62 #[.int .i64 g1, .int .i64 size, (.slice uA k uc), .bool false, .int .i64 (0)])) (by kernel_rfl) hS0 ?_
          clear hS0
          intro hS
          refine takeR (i := 0) (v := .pointer (some ⟨s, 0, none⟩)) 91 rfl (by kernel_rfl) (by kernel_rfl) (by kernel_rfl) (by kernel_rfl) (fun _ _ _ h => h) (yields_pure (by kernel_rfl) (fun w => by kernel_rfl)) hS ?_
          refine takeR (i := 1) (v := .pointer (some ⟨s, 0, none⟩)) 92 rfl (by kernel_rfl) (by kernel_rfl) (by kernel_rfl) (by kernel_rfl) (fun _ _ _ h => h) (yields_pure (by kernel_rfl) (fun w => by kernel_rfl)) hS ?_
          refine takeR (i := 2) (v := .pointer (some ⟨s, 0, none⟩)) 93 rfl (by kernel_rfl) (by kernel_rfl) (by kernel_rfl) (by kernel_rfl) (fun _ _ _ h => h) (yields_pure (by kernel_rfl) (fun w => by kernel_rfl)) hS ?_
          refine takeR (i := 3) 94 rfl (by kernel_rfl) (by kernel_rfl) (by kernel_rfl) (by kernel_rfl) (fun _ _ _ h => h) (yields_load_cell (by kernel_rfl) 52 _ rfl s 0 (by kernel_rfl) (.map (some t.gm)) (fun X h => HC0.out X h.1) _ Tryz.underlying52 rfl) hS ?_
          refine takeR (i := 4) (v := .int .i64 n) 95 rfl (by kernel_rfl) (by kernel_rfl) (by kernel_rfl) (by kernel_rfl) (fun _ _ _ h => h) (yields_pure (by kernel_rfl) (fun w => by kernel_rfl)) hS ?_
          refine takeR (i := 5) 96 rfl (by kernel_rfl) (by kernel_rfl) (by kernel_rfl) (by kernel_rfl) (fun _ _ _ h => h) (yields_load_row (by kernel_rfl) 62 _ rfl x11 (by kernel_rfl) 62 #[.int .i64 g1, .int .i64 size, (.slice uA k uc), .bool false, .int .i64 (0)] _ (fun X h => h.2) Tryz.underlying62 rfl (by kernel_rfl)) hS ?_
          refine wpAnyH_all (rs := [6]) (by kernel_rfl) (by simp) ?_
          intro j hj
          obtain rfl : j = 6 := by simpa using hj
          refine opR_skip (w' := (World.putO W2.drew t.gm (.map ((mset (t.ml.map MdE.ent) n (.agg #[.int .i64 g1, .int .i64 size, (.slice uA k uc), .bool false, .int .i64 (0)]) t.mc).map entM).toArray (mclk (t.ml.map MdE.ent) n t.mc)))) rfl (by kernel_rfl) (by kernel_rfl) (exec_mset (T := 52) (K := 3) (E := 62) (m := .tmp 94) (x := .tmp 95) (y := .tmp 96) (by kernel_rfl) Tryz.underlying52 Tryz.underlying3 (g := t.gm) (by kernel_rfl) (k := n) (by kernel_rfl) (v := .agg #[.int .i64 g1, .int .i64 size, (.slice uA k uc), .bool false, .int .i64 (0)]) (by kernel_rfl) (Nu.out.getm t.gm)) ?_
          refine ⟨⟨Nv.out.getc s, Nv.out.getc x11⟩, ?_⟩
          refine wpAnyH_done (by kernel_rfl) ?_ _
          refine NoPanic.normal ?_
          simp only [Act.put, List.setIfInBounds_toArray, List.set_cons_succ, List.set_cons_zero]
          clear hS
          have MZ : Hid (Has B w (World.putO W2.drew t.gm (.map ((mset (t.ml.map MdE.ent) n (.agg #[.int .i64 g1, .int .i64 size, (.slice uA k uc), .bool false, .int .i64 (0)]) t.mc).map entM).toArray (mclk (t.ml.map MdE.ent) n t.mc))) (Tl s (regT t n tm size false (.slice uA k uc)) Y)) := Lib.hid (by
            have h1 := Nv.out
            have e1 := mset_eset (ent := MdE.ent) (key := MdE.k) (st := MdE.b) (fun _ => rfl) (fun _ => rfl) (k := n) (v := .agg #[.int .i64 g1, .int .i64 size, (.slice uA k uc), .bool false, .int .i64 (0)]) (mk := fun b => (⟨n, ⟨g1, size, tm, false, 0⟩, (.slice uA k uc), b⟩ : MdE)) (fun _ => rfl) t.mc t.ml
            rw [eset_new HFN.out] at e1
            have e2 := mclk_new (ent := MdE.ent) (key := MdE.k) (fun _ => rfl) (c := t.mc) HFN.out
            rw [e1, e2] at h1 ⊢
            have h2 := h1.norm (Star (Bt (.slice uA k uc) tm) (Star (All mdR t.ml) (Star (Cel s 56 t.arr) (Star (Mp t.gm ((t.ml ++ [(⟨n, ⟨g1, size, tm, false, 0⟩, (.slice uA k uc), t.mc⟩ : MdE)]).map MdE.ent) (t.mc + 1)) (Star (Mp t.gg ((gsetL t n g1).map GnE.ent) (mclk (t.gl.map GnE.ent) n t.gc)) (Star (Mp t.gt (t.tl.map ThE.ent) t.tc) (Star (All thR t.tl) Y)))))))
            have h3 : Has B w _ (Star (All mdR (t.ml ++ [(⟨n, ⟨g1, size, tm, false, 0⟩, (.slice uA k uc), t.mc⟩ : MdE)])) (Star (Cel s 56 t.arr) (Star (Mp t.gm ((t.ml ++ [(⟨n, ⟨g1, size, tm, false, 0⟩, (.slice uA k uc), t.mc⟩ : MdE)]).map MdE.ent) (t.mc + 1)) (Star (Mp t.gg ((gsetL t n g1).map GnE.ent) (mclk (t.gl.map GnE.ent) n t.gc)) (Star (Mp t.gt (t.tl.map ThE.ent) t.tc) (Star (All thR t.tl) Y)))))) := h2.imp (fun F hh => all_put (f := mdR) (x := (⟨n, ⟨g1, size, tm, false, 0⟩, (.slice uA k uc), t.mc⟩ : MdE)) (l1 := t.ml) (l2 := []) (by rw [List.append_nil]; exact hh))
            have h4 := h3.norm (Star (Cel s 56 t.arr) (Star (Mp t.gm ((t.ml ++ [(⟨n, ⟨g1, size, tm, false, 0⟩, (.slice uA k uc), t.mc⟩ : MdE)]).map MdE.ent) (t.mc + 1)) (Star (Mp t.gg ((gsetL t n g1).map GnE.ent) (mclk (t.gl.map GnE.ent) n t.gc)) (Star (Mp t.gt (t.tl.map ThE.ent) t.tc) (Star (All mdR (t.ml ++ [(⟨n, ⟨g1, size, tm, false, 0⟩, (.slice uA k uc), t.mc⟩ : MdE)])) (Star (All thR t.tl) Y))))))
            have h5 := HG1.out
            subst h5
            exact h4)
          have HE : Hid (RegE s t Y B w tm size false (.returned (.tuple #[.int .i64 n, .int .i64 0])) (World.putO W2.drew t.gm (.map ((mset (t.ml.map MdE.ent) n (.agg #[.int .i64 g1, .int .i64 size, (.slice uA k uc), .bool false, .int .i64 (0)]) t.mc).map entM).toArray (mclk (t.ml.map MdE.ent) n t.mc)))) := Lib.hid (HHE.out _ _ ⟨n, HFR.out, by rw [if_neg h64]; (first | rw [if_neg HFULL.out] | rw [if_neg (fun hh => HFULL.out ⟨by first | rfl | exact absurd hh.1 (by decide), hh.2⟩)]); exact ⟨rfl, _, MZ.out⟩⟩)
          clear Nu Nv MZ
          go_wp2_with fail
          go_ret2
          exact HE.out
        focus
          have Nf := Lib.hid (M1d.out.newcel 62 #[.int .i64 0, .int .i64 0, .slice none 0 0, .bool false, .int .i64 0])
          have hsr : SrcB (W1.drew.alloc (.cells #[.int .i64 0, .int .i64 0, .slice none 0 0, .bool false, .int .i64 0] 62)) A tm := fun hne => by
            obtain ⟨bb, off, hA, hc⟩ := HSR1.out hne
            exact ⟨bb, off, hA, fun j x hj => Lib.cell?_alloc_some _ (hc j x hj)⟩
          refine opR_run (v := .pointer (some ⟨W1.drew.heap.size, 0, none⟩)) (w' := W1.drew.alloc (.cells #[.int .i64 0, .int .i64 0, .slice none 0 0, .bool false, .int .i64 0] 62)) 11 rfl (by kernel_rfl) (by kernel_rfl) (by kernel_rfl) ?_
          refine ⟨SC.out _ Nf.out.right, ?_⟩
          clear hS
          have hS := SC.out _ Nf.out.right
          have C1 := clone_src (c := c) hsr (by rw [HK.out]; omega)
          rw [HK.out] at C1
          refine wpAnyH_all (rs := [8]) (by kernel_rfl) (by simp) ?_
          intro j hj
          obtain rfl : j = 8 := by simpa using hj
          refine opR_call 58 rfl rfl (by kernel_rfl) _ _ _ rfl _ (by kernel_rfl) (C1.mono ?_)
          rintro e X1 ⟨v1, rfl, hb1, hbel⟩
          obtain ⟨uA, uc, hu, -, -⟩ := hb1.src
          rw [HK.out] at hu
          subst hu
          have Ne := Lib.hid (Nf.out.bytes hb1 hbel)
          refine ⟨_, rfl, SC.out _ Ne.out.right.right, ?_⟩
          clear hS
          have hS := SC.out _ Ne.out.right.right
          clear hb1 hbel hsr C1
          refine takeR (i := 10) (v := .agg #[.int .i64 g1, .int .i64 size, (.slice uA k uc), .bool false, .int .i64 (0)]) 60 rfl (by kernel_rfl) (by kernel_rfl) (by kernel_rfl) (by kernel_rfl) (fun _ _ _ h => h) (yields_pure (by kernel_rfl) (fun w => by kernel_rfl)) hS ?_
          have Ng := Lib.hid (Ne.out.rowc W1.drew.heap.size #[.int .i64 g1, .int .i64 size, (.slice uA k uc), .bool false, .int .i64 (0)])
          refine wpAnyH_all (rs := [12]) (by kernel_rfl) (by simp) ?_
          intro j hj
          obtain rfl : j = 12 := by simpa using hj
          refine opR_store rfl (by kernel_rfl) (by kernel_rfl) 62 _ _ rfl W1.drew.heap.size #[.int .i64 g1, .int .i64 size, (.slice uA k uc), .bool false, .int .i64 (0)] (by kernel_rfl) (by kernel_rfl) 62 #[.int .i64 0, .int .i64 0, .slice none 0 0, .bool false, .int .i64 0] (Ne.out.getc _) (by kernel_rfl) rfl (by kernel_rfl) ?_
          refine ⟨SC.out _ Ng.out.right.right, ?_⟩
          refine wpAnyH_done (by kernel_rfl) ?_ _
          refine NoPanic.normal ?_
          simp only [Act.put, List.setIfInBounds_toArray, List.set_cons_succ, List.set_cons_zero]
          have Nn := Lib.hid (Ng.out.swap)
          generalize W1.drew.heap.size = x11 at Nn ⊢
          obtain ⟨W2, hW⟩ : ∃ W2, X1.setRow x11 #[.int .i64 g1, .int .i64 size, (.slice uA k uc), .bool false, .int .i64 (0)] = W2 := ⟨_, rfl⟩
          rw [hW] at Nn ⊢
          clear hW Ng Nf Ne hS SC M1d
          go_upto_region 18 with fail
          have Nu := Lib.hid (Nn.out.stay ((Below.refl _ W2).drew))
          have Nv := Lib.hid (Nu.out.setm t.gm (mset (t.ml.map MdE.ent) n (.agg #[.int .i64 g1, .int .i64 size, (.slice uA k uc), .bool false, .int .i64 (0)]) t.mc) (mclk (t.ml.map MdE.ent) n t.mc))
          have HC0 : Hid (∀ X : World, Blk X s 56 t.arr → X.cell? ⟨s, 0, none⟩ = some (.map (some t.gm))) := Lib.hid (fun X h => by rw [h.cell]; rfl)
          have hS0 : (fun X : World => Blk X s 56 t.arr ∧ Blk X x11 62 #[.int .i64 g1, .int .i64 size, (.slice uA k uc), .bool false, .int .i64 (0)]) W2.drew := ⟨Nu.out.getc s, Nu.out.getc x11⟩
          refine wp_region_noPanic ?_
          refine wp_region_held_drew (S := (fun X : World => Blk X s 56 t.arr ∧ Blk X x11 62 #[.int .i64 g1, .int .i64 size, (.slice uA k uc), .bool false, .int .i64 (0)])) (by kernel_rfl) hS0 ?_
          clear hS0
          intro hS
          refine takeR (i := 0) (v := .pointer (some ⟨s, 0, none⟩)) 91 rfl (by kernel_rfl) (by kernel_rfl) (by kernel_rfl) (by kernel_rfl) (fun _ _ _ h => h) (yields_pure (by kernel_rfl) (fun w => by kernel_rfl)) hS ?_
          refine takeR (i := 1) (v := .pointer (some ⟨s, 0, none⟩)) 92 rfl (by kernel_rfl) (by kernel_rfl) (by kernel_rfl) (by kernel_rfl) (fun _ _ _ h => h) (yields_pure (by kernel_rfl) (fun w => by kernel_rfl)) hS ?_
          refine takeR (i := 2) (v := .pointer (some ⟨s, 0, none⟩)) 93 rfl (by kernel_rfl) (by kernel_rfl) (by kernel_rfl) (by kernel_rfl) (fun _ _ _ h => h) (yields_pure (by kernel_rfl) (fun w => by kernel_rfl)) hS ?_
          refine takeR (i := 3) 94 rfl (by kernel_rfl) (by kernel_rfl) (by kernel_rfl) (by kernel_rfl) (fun _ _ _ h => h) (yields_load_cell (by kernel_rfl) 52 _ rfl s 0 (by kernel_rfl) (.map (some t.gm)) (fun X h => HC0.out X h.1) _ Tryz.underlying52 rfl) hS ?_
          refine takeR (i := 4) (v := .int .i64 n) 95 rfl (by kernel_rfl) (by kernel_rfl) (by kernel_rfl) (by kernel_rfl) (fun _ _ _ h => h) (yields_pure (by kernel_rfl) (fun w => by kernel_rfl)) hS ?_
          refine takeR (i := 5) 96 rfl (by kernel_rfl) (by kernel_rfl) (by kernel_rfl) (by kernel_rfl) (fun _ _ _ h => h) (yields_load_row (by kernel_rfl) 62 _ rfl x11 (by kernel_rfl) 62 #[.int .i64 g1, .int .i64 size, (.slice uA k uc), .bool false, .int .i64 (0)] _ (fun X h => h.2) Tryz.underlying62 rfl (by kernel_rfl)) hS ?_
          refine wpAnyH_all (rs := [6]) (by kernel_rfl) (by simp) ?_
          intro j hj
          obtain rfl : j = 6 := by simpa using hj
          refine opR_skip (w' := (World.putO W2.drew t.gm (.map ((mset (t.ml.map MdE.ent) n (.agg #[.int .i64 g1, .int .i64 size, (.slice uA k uc), .bool false, .int .i64 (0)]) t.mc).map entM).toArray (mclk (t.ml.map MdE.ent) n t.mc)))) rfl (by kernel_rfl) (by kernel_rfl) (exec_mset (T := 52) (K := 3) (E := 62) (m := .tmp 94) (x := .tmp 95) (y := .tmp 96) (by kernel_rfl) Tryz.underlying52 Tryz.underlying3 (g := t.gm) (by kernel_rfl) (k := n) (by kernel_rfl) (v := .agg #[.int .i64 g1, .int .i64 size, (.slice uA k uc), .bool false, .int .i64 (0)]) (by kernel_rfl) (Nu.out.getm t.gm)) ?_
          refine ⟨⟨Nv.out.getc s, Nv.out.getc x11⟩, ?_⟩
          refine wpAnyH_done (by kernel_rfl) ?_ _
          refine NoPanic.normal ?_
          simp only [Act.put, List.setIfInBounds_toArray, List.set_cons_succ, List.set_cons_zero]
          clear hS
          have MZ : Hid (Has B w (World.putO W2.drew t.gm (.map ((mset (t.ml.map MdE.ent) n (.agg #[.int .i64 g1, .int .i64 size, (.slice uA k uc), .bool false, .int .i64 (0)]) t.mc).map entM).toArray (mclk (t.ml.map MdE.ent) n t.mc))) (Tl s (regT t n tm size false (.slice uA k uc)) Y)) := Lib.hid (by
            have h1 := Nv.out
            have e1 := mset_eset (ent := MdE.ent) (key := MdE.k) (st := MdE.b) (fun _ => rfl) (fun _ => rfl) (k := n) (v := .agg #[.int .i64 g1, .int .i64 size, (.slice uA k uc), .bool false, .int .i64 (0)]) (mk := fun b => (⟨n, ⟨g1, size, tm, false, 0⟩, (.slice uA k uc), b⟩ : MdE)) (fun _ => rfl) t.mc t.ml
            rw [eset_new HFN.out] at e1
            have e2 := mclk_new (ent := MdE.ent) (key := MdE.k) (fun _ => rfl) (c := t.mc) HFN.out
            rw [e1, e2] at h1 ⊢
            have h2 := h1.norm (Star (Bt (.slice uA k uc) tm) (Star (All mdR t.ml) (Star (Cel s 56 t.arr) (Star (Mp t.gm ((t.ml ++ [(⟨n, ⟨g1, size, tm, false, 0⟩, (.slice uA k uc), t.mc⟩ : MdE)]).map MdE.ent) (t.mc + 1)) (Star (Mp t.gg ((gsetL t n g1).map GnE.ent) (mclk (t.gl.map GnE.ent) n t.gc)) (Star (Mp t.gt (t.tl.map ThE.ent) t.tc) (Star (All thR t.tl) Y)))))))
            have h3 : Has B w _ (Star (All mdR (t.ml ++ [(⟨n, ⟨g1, size, tm, false, 0⟩, (.slice uA k uc), t.mc⟩ : MdE)])) (Star (Cel s 56 t.arr) (Star (Mp t.gm ((t.ml ++ [(⟨n, ⟨g1, size, tm, false, 0⟩, (.slice uA k uc), t.mc⟩ : MdE)]).map MdE.ent) (t.mc + 1)) (Star (Mp t.gg ((gsetL t n g1).map GnE.ent) (mclk (t.gl.map GnE.ent) n t.gc)) (Star (Mp t.gt (t.tl.map ThE.ent) t.tc) (Star (All thR t.tl) Y)))))) := h2.imp (fun F hh => all_put (f := mdR) (x := (⟨n, ⟨g1, size, tm, false, 0⟩, (.slice uA k uc), t.mc⟩ : MdE)) (l1 := t.ml) (l2 := []) (by rw [List.append_nil]; exact hh))
            have h4 := h3.norm (Star (Cel s 56 t.arr) (Star (Mp t.gm ((t.ml ++ [(⟨n, ⟨g1, size, tm, false, 0⟩, (.slice uA k uc), t.mc⟩ : MdE)]).map MdE.ent) (t.mc + 1)) (Star (Mp t.gg ((gsetL t n g1).map GnE.ent) (mclk (t.gl.map GnE.ent) n t.gc)) (Star (Mp t.gt (t.tl.map ThE.ent) t.tc) (Star (All mdR (t.ml ++ [(⟨n, ⟨g1, size, tm, false, 0⟩, (.slice uA k uc), t.mc⟩ : MdE)])) (Star (All thR t.tl) Y))))))
            have h5 := HG1.out
            subst h5
            exact h4)
          have HE : Hid (RegE s t Y B w tm size false (.returned (.tuple #[.int .i64 n, .int .i64 0])) (World.putO W2.drew t.gm (.map ((mset (t.ml.map MdE.ent) n (.agg #[.int .i64 g1, .int .i64 size, (.slice uA k uc), .bool false, .int .i64 (0)]) t.mc).map entM).toArray (mclk (t.ml.map MdE.ent) n t.mc)))) := Lib.hid (HHE.out _ _ ⟨n, HFR.out, by rw [if_neg h64]; (first | rw [if_neg HFULL.out] | rw [if_neg (fun hh => HFULL.out ⟨by first | rfl | exact absurd hh.1 (by decide), hh.2⟩)]); exact ⟨rfl, _, MZ.out⟩⟩)
          clear Nu Nv MZ
          go_wp2_with fail
          go_ret2
          exact HE.out
  | true =>
    have s31 : wr.cell? ⟨s, 3, none⟩ = some (.bool false) := by (rw [s3]; cases hsd : t.sd with | false => rfl | true => exact absurd ⟨rfl, hsd⟩ h4)
    clear s3
    have HHE : Hid (∀ e w', (∃ n, FreeN t.ml n ∧ (if 64 < n then e = .returned (.tuple #[.int .i64 0, .int .i64 3]) ∧ Has B w w' (Tl s t Y)
        else if true = true ∧ wrap64 (4096 - t.ar) < upT size then e = .returned (.tuple #[.int .i64 0, .int .i64 3]) ∧ Has B w w' (Tl s (gsetT (gsetT t n (wrap64 (gget t.gl n + 1))) n (wrap64 (wrap64 (gget t.gl n + 1) - 1))) Y)
        else e = .returned (.tuple #[.int .i64 n, .int .i64 0]) ∧ ∃ v, Has B w w' (Tl s (regT t n tm size true v) Y))) → RegE s t Y B w tm size true e w') := Lib.hid (fun e w' hh => by unfold RegE; rw [if_neg HBAD.out, if_neg HN4.out]; exact hh)
    clear h4
    go_enter Tryz.func9, Tryz.ntmps9
    go_upto_region 6 with fail
    go_loopw [10] (fun i wr => ∃ n : Int, i = .int .i64 n ∧ 1 ≤ n ∧ n ≤ 65 ∧ Hid (∀ k, 1 ≤ k → k < n → 0 < mszS t.ml k) ∧ Hid (Has B w wr (Tl s t Y)) ∧ Hid (SrcB wr A tm)) (fun i _ => (65 - intOf i).toNat)
    case atStart => exact ⟨1, rfl, by omega, by omega, Lib.hid (fun k h1 h2 => by omega), M0, HSR⟩
    case round =>
      clear M0 HSR
      obtain ⟨n, rfl, hn1, hn2, HB4, M8, HSR⟩ := hrel
      obtain ⟨w8, hw8⟩ : ∃ w8, w8 = wr := ⟨_, rfl⟩
      rw [← hw8] at M8 HSR ⊢
      clear hw8
      have s0 : w8.cell? ⟨s, 0, none⟩ = some (.map (some t.gm)) := M8.out.cellat s 0 rfl
      have hmz := mdz_sz t.ml n
      cases hf : efind MdE.k t.ml n with
      | some y =>
        rw [hf] at hmz
        have hpos : 0 < y.x.size := by have := (HMK.out y (efind_mem hf).1).2; omega
        have hn3 : n ≤ 64 := by have := (HMK.out y (efind_mem hf).1).1; have := (efind_mem hf).2; omega
        have HB5 : Hid (∀ k, 1 ≤ k → k < n + 1 → 0 < mszS t.ml k) := Lib.hid (fun k h1 h2 => by
          by_cases hkn : k = n
          · subst hkn; unfold mszS; rw [hf]; exact hpos
          · exact HB4.out k h1 (by omega))
        have hw1 : IntKind.i64.wrap (n + 1) = n + 1 := by rw [IntKind.wrap_i64]; omega
        clear hf
        go_wp2_with (first | (refine wpList_mlookV rfl 52 3 62 _ _ rfl Tryz.underlying52 Tryz.underlying3 t.gm _ _ rfl n rfl (M8.out.getm t.gm) (.agg #[.int .i64 0, .int .i64 0, .slice none 0 0, .bool false, .int .i64 0]) z_mod (.agg (mdA y.x y.v)) hmz ?_) | (refine wpList_fieldK rfl 62 _ 1 rfl (.agg (mdA y.x y.v)) (.int .i64 y.x.size) rfl (z_fd1 _ _ _) ?_))
        first
          | (go_round
             case rel => exact ⟨n + 1, by first | rfl | (congr 1; unfold wrap64; omega), by omega, by omega, HB5, M8, HSR⟩
             case measure => simp [intOf]; omega)
          | (refine ⟨⟨n + 1, by first | rfl | (congr 1; unfold wrap64; omega), by omega, by omega, HB5, M8, HSR⟩, ?_⟩
             simp [intOf]; omega)
      | none =>
        rw [hf] at hmz
        have HFR : Hid (FreeN t.ml n) := Lib.hid ⟨hn1, hn2, HB4.out, by unfold mszS; rw [hf]; decide⟩
        have HFN := Lib.hid hf
        clear hf
        by_cases h64 : 64 < n
        · have HE : Hid (RegE s t Y B w tm size true (.returned (.tuple #[.int .i64 0, .int .i64 3])) w8) := Lib.hid (HHE.out _ _ ⟨n, HFR.out, by rw [if_pos h64]; exact ⟨rfl, M8.out⟩⟩)
          go_wp2_with (first | (refine wpList_mlookV rfl 52 3 62 _ _ rfl Tryz.underlying52 Tryz.underlying3 t.gm _ _ rfl n rfl (M8.out.getm t.gm) (.agg #[.int .i64 0, .int .i64 0, .slice none 0 0, .bool false, .int .i64 0]) z_mod (.agg #[.int .i64 0, .int .i64 0, .slice none 0 0, .bool false, .int .i64 0]) hmz ?_) | (refine wpList_fieldK rfl 62 _ 1 rfl (.agg #[.int .i64 0, .int .i64 0, .slice none 0 0, .bool false, .int .i64 0]) (.int .i64 0) rfl (z_fd0 _) ?_))
          go_ret2
          exact HE.out
        have s1 : w8.cell? ⟨s, 1, none⟩ = some (.map (some t.gg)) := M8.out.cellat s 1 rfl
        have Ma := Lib.hid (M8.out.setm t.gg (mset (t.gl.map GnE.ent) n (.int .i64 (wrap64 (gget t.gl n + 1))) t.gc) (mclk (t.gl.map GnE.ent) n t.gc))
        have M1 : Hid (Has B w (World.putO w8 t.gg (.map ((mset (t.gl.map GnE.ent) n (.int .i64 (wrap64 (gget t.gl n + 1))) t.gc).map entM).toArray (mclk (t.gl.map GnE.ent) n t.gc))) (Star (Cel s 56 t.arr) (Star (Mp t.gm (t.ml.map MdE.ent) t.mc) (Star (Mp t.gg ((gsetL t n (wrap64 (gget t.gl n + 1))).map GnE.ent) (mclk (t.gl.map GnE.ent) n t.gc)) (Star (Mp t.gt (t.tl.map ThE.ent) t.tc) (Star (All mdR t.ml) (Star (All thR t.tl) Y))))))) := Lib.hid (by
          have h1 := Ma.out
          have e1 := gsetL_m t n (wrap64 (gget t.gl n + 1))
          rw [e1] at h1 ⊢
          exact h1)
        clear Ma
        go_upto_region 11 with (first | (refine wpList_mlookV rfl 52 3 62 _ _ rfl Tryz.underlying52 Tryz.underlying3 t.gm _ _ rfl n rfl (M8.out.getm t.gm) (.agg #[.int .i64 0, .int .i64 0, .slice none 0 0, .bool false, .int .i64 0]) z_mod (.agg #[.int .i64 0, .int .i64 0, .slice none 0 0, .bool false, .int .i64 0]) hmz ?_) | (refine wpList_fieldK rfl 62 _ 1 rfl (.agg #[.int .i64 0, .int .i64 0, .slice none 0 0, .bool false, .int .i64 0]) (.int .i64 0) rfl (z_fd0 _) ?_) | (refine wpList_mlookV rfl 53 3 3 _ _ rfl Tryz.underlying53 Tryz.underlying3 t.gg _ _ rfl n rfl (M8.out.getm t.gg) (.int .i64 0) z_int (.int .i64 (gget t.gl n)) (gget_m t.gl n) ?_) | (refine wpList_mset rfl 53 3 3 _ _ _ rfl Tryz.underlying53 Tryz.underlying3 t.gg _ t.gc rfl n rfl (.int .i64 (wrap64 (gget t.gl n + 1))) rfl (M8.out.getm t.gg) ?_))
        obtain ⟨W1, hW⟩ : ∃ W1, (World.putO w8 t.gg (.map ((mset (t.gl.map GnE.ent) n (.int .i64 (wrap64 (gget t.gl n + 1))) t.gc).map entM).toArray (mclk (t.gl.map GnE.ent) n t.gc))) = W1 := ⟨_, rfl⟩
        have HSR1 : Hid (SrcB W1 A tm) := Lib.hid (by
          rw [← hW]
          intro hne
          obtain ⟨bb, off, hA, hc⟩ := HSR.out hne
          exact ⟨bb, off, hA, fun j x hj => by
            have h9 := HNE.out hne _ hA
            have h8 := hc j x hj
            rw [← h8]
            exact World.cell?_of_block (putO_other (fun e => h9 e))⟩)
        rw [hW] at M1 ⊢
        clear hW s0 s1 hmz M8 HSR
        have SS : Hid ((fun X : World => Blk X s 56 t.arr ∧ X.heap[t.gg]? = some (.map (((gsetL t n (wrap64 (gget t.gl n + 1))).map GnE.ent).map entM).toArray (mclk (t.gl.map GnE.ent) n t.gc))) W1.drew) := Lib.hid ⟨M1.out.getc s, M1.out.getm t.gg⟩
        have HC1 : Hid (∀ X : World, Blk X s 56 t.arr → X.cell? ⟨s, 1, none⟩ = some (.map (some t.gg))) := Lib.hid (fun X h => by rw [h.cell]; rfl)
        have HGV : Hid ((mget ((gsetL t n (wrap64 (gget t.gl n + 1))).map GnE.ent) n).getD (.int .i64 0) = .int .i64 (wrap64 (gget t.gl n + 1))) := Lib.hid (by rw [gget_m, gget_gset, if_pos rfl])
        obtain ⟨g1, hg1⟩ : ∃ g1, wrap64 (gget t.gl n + 1) = g1 := ⟨_, rfl⟩
        rw [hg1] at M1 SS HGV ⊢
        have HG1 := Lib.hid hg1
        clear hg1
        refine wp_region_noPanic ?_
        refine wp_region_held_drew (S := fun X : World => Blk X s 56 t.arr ∧ X.heap[t.gg]? = some (.map (((gsetL t n g1).map GnE.ent).map entM).toArray (mclk (t.gl.map GnE.ent) n t.gc))) (by kernel_rfl) SS.out ?_
        clear SS
        intro hS
        refine takeR (i := 0) (v := .pointer (some ⟨s, 0, none⟩)) 50 rfl (by kernel_rfl) (by kernel_rfl) (by kernel_rfl) (by kernel_rfl) (fun _ _ _ h => h) (yields_pure (by kernel_rfl) (fun w => by kernel_rfl)) hS ?_
        refine takeR (i := 1) (v := .pointer (some ⟨s, 0, none⟩)) 51 rfl (by kernel_rfl) (by kernel_rfl) (by kernel_rfl) (by kernel_rfl) (fun _ _ _ h => h) (yields_pure (by kernel_rfl) (fun w => by kernel_rfl)) hS ?_
        refine takeR (i := 2) (v := .pointer (some ⟨s, 1, none⟩)) 52 rfl (by kernel_rfl) (by kernel_rfl) (by kernel_rfl) (by kernel_rfl) (fun _ _ _ h => h) (yields_pure (by kernel_rfl) (fun w => by kernel_rfl)) hS ?_
        refine takeR (i := 3) 53 rfl (by kernel_rfl) (by kernel_rfl) (by kernel_rfl) (by kernel_rfl) (fun _ _ _ h => h) (yields_load_cell (by kernel_rfl) 53 _ rfl s 1 (by kernel_rfl) (.map (some t.gg)) (fun X h => HC1.out X h.1) _ Tryz.underlying53 rfl) hS ?_
        refine takeR (i := 4) (v := .int .i64 n) 54 rfl (by kernel_rfl) (by kernel_rfl) (by kernel_rfl) (by kernel_rfl) (fun _ _ _ h => h) (yields_pure (by kernel_rfl) (fun w => by kernel_rfl)) hS ?_
        refine takeR (i := 5) 55 rfl (by kernel_rfl) (by kernel_rfl) (by kernel_rfl) (by kernel_rfl) (fun _ _ _ h => h) (yields_mlook1 (by kernel_rfl) 53 3 3 _ _ rfl Tryz.underlying53 Tryz.underlying3 t.gg ((gsetL t n g1).map GnE.ent) _ (by kernel_rfl) n (by kernel_rfl) (.int .i64 0) (.int .i64 g1) z_int HGV.out (fun X h => h.2)) hS ?_
        refine takeR (i := 6) (v := .int .i64 size) 56 rfl (by kernel_rfl) (by kernel_rfl) (by kernel_rfl) (by kernel_rfl) (fun _ _ _ h => h) (yields_pure (by kernel_rfl) (fun w => by kernel_rfl)) hS ?_
        refine takeR (i := 7) (v := .slice A k c) 57 rfl (by kernel_rfl) (by kernel_rfl) (by kernel_rfl) (by kernel_rfl) (fun _ _ _ h => h) (yields_pure (by kernel_rfl) (fun w => by kernel_rfl)) hS ?_
        refine takeR (i := 9) (v := .bool true) 59 rfl (by kernel_rfl) (by kernel_rfl) (by kernel_rfl) (by kernel_rfl) (fun _ _ _ h => h) (yields_pure (by kernel_rfl) (fun w => by kernel_rfl)) hS ?_
        have M1d := Lib.hid (M1.out.stay ((Below.refl _ W1).drew))
        have SC : Hid (∀ X : World, Has B w X (Star (Cel s 56 t.arr) (Star (Mp t.gm (t.ml.map MdE.ent) t.mc) (Star (Mp t.gg ((gsetL t n g1).map GnE.ent) (mclk (t.gl.map GnE.ent) n t.gc)) (Star (Mp t.gt (t.tl.map ThE.ent) t.tc) (Star (All mdR t.ml) (Star (All thR t.tl) Y)))))) → Blk X s 56 t.arr ∧ X.heap[t.gg]? = some (.map (((gsetL t n g1).map GnE.ent).map entM).toArray (mclk (t.gl.map GnE.ent) n t.gc))) := Lib.hid (fun X hh => ⟨hh.getc s, hh.getm t.gg⟩)
        skip
        refine wpAnyH_all (rs := [8, 11]) (by kernel_rfl) (by simp) ?_
        intro j hj
        obtain rfl | rfl : j = 8 ∨ j = 11 := by simpa using hj
        focus
          have hsr : SrcB W1.drew A tm := HSR1.out
          have C1 := clone_src (c := c) hsr (by rw [HK.out]; omega)
          rw [HK.out] at C1
          refine opR_call 58 rfl rfl (by kernel_rfl) _ _ _ rfl _ (by kernel_rfl) (C1.mono ?_)
          rintro e X1 ⟨v1, rfl, hb1, hbel⟩
          obtain ⟨uA, uc, hu, -, -⟩ := hb1.src
          rw [HK.out] at hu
          subst hu
          have Ne := Lib.hid (M1d.out.bytes hb1 hbel)
          refine ⟨_, rfl, SC.out _ Ne.out.right, ?_⟩
          clear hS
          have hS := SC.out _ Ne.out.right
          clear hb1 hbel hsr C1
          refine takeR (i := 10) (v := .agg #[.int .i64 g1, .int .i64 size, (.slice uA k uc), .bool true, .int .i64 (0)]) 60 rfl (by kernel_rfl) (by kernel_rfl) (by kernel_rfl) (by kernel_rfl) (fun _ _ _ h => h) (yields_pure (by kernel_rfl) (fun w => by kernel_rfl)) hS ?_
          have Nf := Lib.hid (Ne.out.newcel 62 #[.int .i64 0, .int .i64 0, .slice none 0 0, .bool false, .int .i64 0])
          refine wpAnyH_all (rs := [11]) (by kernel_rfl) (by simp) ?_
          intro j hj
          obtain rfl : j = 11 := by simpa using hj
          refine opR_run (v := .pointer (some ⟨X1.heap.size, 0, none⟩)) (w' := X1.alloc (.cells #[.int .i64 0, .int .i64 0, .slice none 0 0, .bool false, .int .i64 0] 62)) 11 rfl (by kernel_rfl) (by kernel_rfl) (by kernel_rfl) ?_
          refine ⟨SC.out _ Nf.out.right.right, ?_⟩
          have Ng := Lib.hid (Nf.out.rowc X1.heap.size #[.int .i64 g1, .int .i64 size, (.slice uA k uc), .bool true, .int .i64 (0)])
          refine wpAnyH_all (rs := [12]) (by kernel_rfl) (by simp) ?_
          intro j hj
          obtain rfl : j = 12 := by simpa using hj
          refine opR_store rfl (by kernel_rfl) (by kernel_rfl) 62 _ _ rfl X1.heap.size #[.int .i64 g1, .int .i64 size, (.slice uA k uc), .bool true, .int .i64 (0)] (by kernel_rfl) (by kernel_rfl) 62 #[.int .i64 0, .int .i64 0, .slice none 0 0, .bool false, .int .i64 0] (Nf.out.getc _) (by kernel_rfl) rfl (by kernel_rfl) ?_
          refine ⟨SC.out _ Ng.out.right.right, ?_⟩
          refine wpAnyH_done (by kernel_rfl) ?_ _
          refine NoPanic.normal ?_
          simp only [Act.put, List.setIfInBounds_toArray, List.set_cons_succ, List.set_cons_zero]
          obtain ⟨W2, hW⟩ : ∃ W2, (X1.alloc (.cells #[.int .i64 0, .int .i64 0, .slice none 0 0, .bool false, .int .i64 0] 62)).setRow X1.heap.size #[.int .i64 g1, .int .i64 size, (.slice uA k uc), .bool true, .int .i64 (0)] = W2 := ⟨_, rfl⟩
          rw [hW] at Ng ⊢
          have Nn := Ng
          clear hW Ng Nf Ne hS SC M1d
          generalize X1.heap.size = x11 at Nn ⊢
          go_upto_region 13 with fail
          have Nd := Lib.hid (Nn.out.stay ((Below.refl _ W2).drew))
          have hS0 : (fun X : World => Blk X s 56 t.arr) W2.drew := Nd.out.getc s
          have HC4 : Hid (∀ X : World, Blk X s 56 t.arr → X.cell? ⟨s, 4, none⟩ = some (.int .i64 t.ar)) := Lib.hid (fun X h => by rw [h.cell]; rfl)
          have CU := fun w => tup_any size (by omega) (by omega) w
          refine wp_region_noPanic ?_
          refine wp_region_held_drew (S := fun X : World => Blk X s 56 t.arr) (by kernel_rfl) hS0 ?_
          clear hS0
          intro hS
          refine takeR (i := 0) (v := .int .i64 size) 62 rfl (by kernel_rfl) (by kernel_rfl) (by kernel_rfl) (by kernel_rfl) (fun _ _ _ h => h) (yields_pure (by kernel_rfl) (fun w => by kernel_rfl)) hS ?_
          refine takeR (i := 2) (v := .pointer (some ⟨s, 0, none⟩)) 64 rfl (by kernel_rfl) (by kernel_rfl) (by kernel_rfl) (by kernel_rfl) (fun _ _ _ h => h) (yields_pure (by kernel_rfl) (fun w => by kernel_rfl)) hS ?_
          refine takeR (i := 3) (v := .pointer (some ⟨s, 0, none⟩)) 65 rfl (by kernel_rfl) (by kernel_rfl) (by kernel_rfl) (by kernel_rfl) (fun _ _ _ h => h) (yields_pure (by kernel_rfl) (fun w => by kernel_rfl)) hS ?_
          refine takeR (i := 4) (v := .pointer (some ⟨s, 4, none⟩)) 66 rfl (by kernel_rfl) (by kernel_rfl) (by kernel_rfl) (by kernel_rfl) (fun _ _ _ h => h) (yields_pure (by kernel_rfl) (fun w => by kernel_rfl)) hS ?_
          refine takeR (i := 5) 67 rfl (by kernel_rfl) (by kernel_rfl) (by kernel_rfl) (by kernel_rfl) (fun _ _ _ h => h) (yields_load_cell (by kernel_rfl) 3 _ rfl s 4 (by kernel_rfl) (.int .i64 t.ar) (fun X h => HC4.out X h) _ Tryz.underlying3 rfl) hS ?_
          refine takeR (i := 6) (v := .int .i64 (wrap64 (4096 - t.ar))) 68 rfl (by kernel_rfl) (by kernel_rfl) (by kernel_rfl) (by kernel_rfl) (fun _ _ _ h => h) (yields_pure (by kernel_rfl) (fun w => (show _ = Result.ok (Next.value (.int .i64 (IntKind.i64.wrap (4096 - t.ar)))) w by kernel_rfl).trans (by rw [i64_wrap64]))) hS ?_
          refine wpAnyH_all (rs := [1]) (by kernel_rfl) (by simp) ?_
          intro j hj
          obtain rfl : j = 1 := by simpa using hj
          refine opR_call 63 rfl rfl (by kernel_rfl) _ _ _ rfl _ (by kernel_rfl) ((CU _).mono ?_)
          rintro e X2 ⟨rfl, rfl⟩
          refine ⟨_, rfl, hS, ?_⟩
          obtain ⟨bb, hbb⟩ : ∃ bb : Bool, decide (wrap64 (4096 - t.ar) < upT size) = bb := ⟨_, rfl⟩
          refine takeR (i := 7) (v := .bool bb) 69 rfl (by kernel_rfl) (by kernel_rfl) (by kernel_rfl) (by kernel_rfl) (fun _ _ _ h => h) (yields_pure (by kernel_rfl) (fun w => (show _ = Result.ok (Next.value (.bool (decide (wrap64 (4096 - t.ar) < upT size)))) w by kernel_rfl).trans (by rw [hbb]))) hS ?_
          refine wpAnyH_done (by kernel_rfl) ?_ _
          refine NoPanic.normal ?_
          simp only [Act.put, List.setIfInBounds_toArray, List.set_cons_succ, List.set_cons_zero]
          clear hS
          obtain ⟨W3, hW⟩ : ∃ W3, W2.drew = W3 := ⟨_, rfl⟩
          rw [hW] at Nd ⊢
          clear hW Nn
          have HBB := Lib.hid hbb
          clear hbb
          cases bb with
          | true =>
            have s1 : W3.cell? ⟨s, 1, none⟩ = some (.map (some t.gg)) := Nd.out.cellat s 1 rfl
            have MV2 := Lib.hid (Nd.out.setm t.gg (mset ((gsetL t n g1).map GnE.ent) n (.int .i64 (wrap64 (g1 - 1))) (mclk (t.gl.map GnE.ent) n t.gc)) (mclk ((gsetL t n g1).map GnE.ent) n (mclk (t.gl.map GnE.ent) n t.gc)))
            have HUP : Hid (true = true ∧ wrap64 (4096 - t.ar) < upT size) := Lib.hid ⟨rfl, of_decide_eq_true HBB.out⟩
            have HE : Hid (RegE s t Y B w tm size true (.returned (.tuple #[.int .i64 0, .int .i64 3])) (World.putO W3 t.gg (.map ((mset ((gsetL t n g1).map GnE.ent) n (.int .i64 (wrap64 (g1 - 1))) (mclk (t.gl.map GnE.ent) n t.gc)).map entM).toArray (mclk ((gsetL t n g1).map GnE.ent) n (mclk (t.gl.map GnE.ent) n t.gc))))) := Lib.hid (HHE.out _ _ ⟨n, HFR.out, by
              rw [if_neg h64]; (first | rw [if_pos HUP.out] | rw [if_pos (show True ∧ wrap64 (4096 - t.ar) < upT size from ⟨trivial, HUP.out.2⟩)])
              refine ⟨rfl, ?_⟩
              have h1 := MV2.out
              have e1 : mset ((gsetL t n g1).map GnE.ent) n (.int .i64 (wrap64 (g1 - 1))) (mclk (t.gl.map GnE.ent) n t.gc) = (gsetL (gsetT t n g1) n (wrap64 (g1 - 1))).map GnE.ent := gsetL_m (gsetT t n g1) n (wrap64 (g1 - 1))
              rw [e1] at h1 ⊢
              have h2 := h1.norm (Star (Cel s 56 t.arr) (Star (Mp t.gm (t.ml.map MdE.ent) t.mc) (Star (Mp t.gg ((gsetL (gsetT t n g1) n (wrap64 (g1 - 1))).map GnE.ent) (mclk ((gsetL t n g1).map GnE.ent) n (mclk (t.gl.map GnE.ent) n t.gc))) (Star (Mp t.gt (t.tl.map ThE.ent) t.tc) (Star (All mdR t.ml) (Star (All thR t.tl) Y))))))
              have h5 := HG1.out
              subst h5
              exact h2⟩)
            clear MV2
            go_wp2_with (first | (refine wpList_mlookV rfl 53 3 3 _ _ rfl Tryz.underlying53 Tryz.underlying3 t.gg _ _ rfl n rfl (Nd.out.getm t.gg) (.int .i64 0) z_int (.int .i64 g1) HGV.out ?_) | (refine wpList_mset rfl 53 3 3 _ _ _ rfl Tryz.underlying53 Tryz.underlying3 t.gg _ (mclk (t.gl.map GnE.ent) n t.gc) rfl n rfl (.int .i64 (wrap64 (g1 - 1))) rfl (Nd.out.getm t.gg) ?_))
            go_ret2
            exact HE.out
          | false =>
            have HFULL : Hid (¬ (true = true ∧ wrap64 (4096 - t.ar) < upT size)) := Lib.hid (fun hh => absurd hh.2 (of_decide_eq_false HBB.out))
            have s4 : W3.cell? ⟨s, 4, none⟩ = some (.int .i64 t.ar) := Nd.out.cellat s 4 rfl
            have x4 : W3.cell? ⟨x11, 4, none⟩ = some (.int .i64 0) := Nd.out.cellat x11 4 rfl
            have f4 : W3.frozen? ⟨x11, 4, none⟩ = false := Nd.out.liveat x11 4
            have Nx := Lib.hid (Nd.out.cellc x11 4 (.int .i64 t.ar) #[.int .i64 g1, .int .i64 size, (.slice uA k uc), .bool true, .int .i64 (t.ar)] rfl)
            go_upto_region 17 with fail
            obtain ⟨W4, hW⟩ : ∃ W4, W3.setCell ⟨x11, 4, none⟩ (.int .i64 t.ar) = W4 := ⟨_, rfl⟩
            rw [hW] at Nx ⊢
            clear hW s4 x4 f4 Nd
            have Ny := Lib.hid (Nx.out.stay ((Below.refl _ W4).drew))
            have Nz := Lib.hid (Ny.out.cellc s 4 (.int .i64 (wrap64 (t.ar + upT size))) (regT t n tm size true (.slice uA k uc)).arr rfl)
            refine wp_region_noPanic ?_
            refine wp_region_held_drew (S := fun _ : World => True) (by kernel_rfl) trivial ?_
            intro hS
            refine takeR (i := 0) (v := .pointer (some ⟨s, 0, none⟩)) 82 rfl (by kernel_rfl) (by kernel_rfl) (by kernel_rfl) (by kernel_rfl) (fun _ _ _ h => h) (yields_pure (by kernel_rfl) (fun w => by kernel_rfl)) hS ?_
            refine takeR (i := 1) (v := .pointer (some ⟨s, 0, none⟩)) 83 rfl (by kernel_rfl) (by kernel_rfl) (by kernel_rfl) (by kernel_rfl) (fun _ _ _ h => h) (yields_pure (by kernel_rfl) (fun w => by kernel_rfl)) hS ?_
            refine takeR (i := 2) (v := .pointer (some ⟨s, 4, none⟩)) 84 rfl (by kernel_rfl) (by kernel_rfl) (by kernel_rfl) (by kernel_rfl) (fun _ _ _ h => h) (yields_pure (by kernel_rfl) (fun w => by kernel_rfl)) hS ?_
            refine takeR (i := 4) (v := .int .i64 size) 86 rfl (by kernel_rfl) (by kernel_rfl) (by kernel_rfl) (by kernel_rfl) (fun _ _ _ h => h) (yields_pure (by kernel_rfl) (fun w => by kernel_rfl)) hS ?_
            refine wpAnyH_all (rs := [3, 5]) (by kernel_rfl) (by simp) ?_
            intro j hj
            obtain rfl | rfl : j = 3 ∨ j = 5 := by simpa using hj
            focus
              refine opR_run (v := .int .i64 t.ar) (w' := W4.drew) 85 rfl (by kernel_rfl) (by kernel_rfl) (exec_load_cell 3 (.tmp 84) (by kernel_rfl) s 4 (by kernel_rfl) (.int .i64 t.ar) (Ny.out.cellat s 4 rfl) _ Tryz.underlying3 rfl) ?_
              refine ⟨trivial, ?_⟩
              refine wpAnyH_all (rs := [5]) (by kernel_rfl) (by simp) ?_
              intro j hj
              obtain rfl : j = 5 := by simpa using hj
              refine opR_call 87 rfl rfl (by kernel_rfl) _ _ _ rfl _ (by kernel_rfl) ((CU _).mono ?_)
              rintro e X2 ⟨rfl, rfl⟩
              refine ⟨_, rfl, trivial, ?_⟩
              refine takeR (i := 6) (v := .int .i64 (wrap64 (t.ar + upT size))) 88 rfl (by kernel_rfl) (by kernel_rfl) (by kernel_rfl) (by kernel_rfl) (fun _ _ _ h => h) (yields_pure (by kernel_rfl) (fun w => (show _ = Result.ok (Next.value (.int .i64 (IntKind.i64.wrap (t.ar + upT size)))) w by kernel_rfl).trans (by rw [i64_wrap64]))) hS ?_
              refine takeR (i := 7) (v := .pointer (some ⟨s, 0, none⟩)) 89 rfl (by kernel_rfl) (by kernel_rfl) (by kernel_rfl) (by kernel_rfl) (fun _ _ _ h => h) (yields_pure (by kernel_rfl) (fun w => by kernel_rfl)) hS ?_
              refine takeR (i := 8) (v := .pointer (some ⟨s, 4, none⟩)) 90 rfl (by kernel_rfl) (by kernel_rfl) (by kernel_rfl) (by kernel_rfl) (fun _ _ _ h => h) (yields_pure (by kernel_rfl) (fun w => by kernel_rfl)) hS ?_
              refine wpAnyH_all (rs := [9]) (by kernel_rfl) (by simp) ?_
              intro j hj
              obtain rfl : j = 9 := by simpa using hj
              refine opR_cell rfl (by kernel_rfl) (by kernel_rfl) 3 (.tmp 90) (.tmp 88) (by kernel_rfl) s 4 (wrap64 (t.ar + upT size)) (.int .i64 t.ar) (by kernel_rfl) (by kernel_rfl) (Ny.out.cellat s 4 rfl) (Ny.out.liveat s 4) Tryz.underlying3 (by kernel_rfl) ?_
              refine ⟨trivial, ?_⟩
              refine wpAnyH_done (by kernel_rfl) ?_ _
              refine NoPanic.normal ?_
              simp only [Act.put, List.setIfInBounds_toArray, List.set_cons_succ, List.set_cons_zero]
              obtain ⟨W5, hW⟩ : ∃ W5, W4.drew.setCell ⟨s, 4, none⟩ (.int .i64 (wrap64 (t.ar + upT size))) = W5 := ⟨_, rfl⟩
              rw [hW] at Nz ⊢
              clear hW Nx Ny hS
              go_upto_region 18 with fail
              have Nu := Lib.hid (Nz.out.stay ((Below.refl _ W5).drew))
              have Nv := Lib.hid (Nu.out.setm t.gm (mset (t.ml.map MdE.ent) n (.agg #[.int .i64 g1, .int .i64 size, (.slice uA k uc), .bool true, .int .i64 (t.ar)]) t.mc) (mclk (t.ml.map MdE.ent) n t.mc))
              have HC0 : Hid (∀ X : World, Blk X s 56 (regT t n tm size true (.slice uA k uc)).arr → X.cell? ⟨s, 0, none⟩ = some (.map (some t.gm))) := Lib.hid (fun X h => by rw [h.cell]; rfl)
              have hS0 : (fun X : World => Blk X s 56 (regT t n tm size true (.slice uA k uc)).arr ∧ Blk X x11 62 #[.int .i64 g1, .int .i64 size, (.slice uA k uc), .bool true, .int .i64 (t.ar)]) W5.drew := ⟨Nu.out.getc s, Nu.out.getc x11⟩
              refine wp_region_noPanic ?_
              refine wp_region_held_drew (S := (fun X : World => Blk X s 56 (regT t n tm size true (.slice uA k uc)).arr ∧ Blk X x11 62 #[.int .i64 g1, .int .i64 size, (.slice uA k uc), .bool true, .int .i64 (t.ar)])) (by kernel_rfl) hS0 ?_
              clear hS0
              intro hS
              refine takeR (i := 0) (v := .pointer (some ⟨s, 0, none⟩)) 91 rfl (by kernel_rfl) (by kernel_rfl) (by kernel_rfl) (by kernel_rfl) (fun _ _ _ h => h) (yields_pure (by kernel_rfl) (fun w => by kernel_rfl)) hS ?_
              refine takeR (i := 1) (v := .pointer (some ⟨s, 0, none⟩)) 92 rfl (by kernel_rfl) (by kernel_rfl) (by kernel_rfl) (by kernel_rfl) (fun _ _ _ h => h) (yields_pure (by kernel_rfl) (fun w => by kernel_rfl)) hS ?_
              refine takeR (i := 2) (v := .pointer (some ⟨s, 0, none⟩)) 93 rfl (by kernel_rfl) (by kernel_rfl) (by kernel_rfl) (by kernel_rfl) (fun _ _ _ h => h) (yields_pure (by kernel_rfl) (fun w => by kernel_rfl)) hS ?_
              refine takeR (i := 3) 94 rfl (by kernel_rfl) (by kernel_rfl) (by kernel_rfl) (by kernel_rfl) (fun _ _ _ h => h) (yields_load_cell (by kernel_rfl) 52 _ rfl s 0 (by kernel_rfl) (.map (some t.gm)) (fun X h => HC0.out X h.1) _ Tryz.underlying52 rfl) hS ?_
              refine takeR (i := 4) (v := .int .i64 n) 95 rfl (by kernel_rfl) (by kernel_rfl) (by kernel_rfl) (by kernel_rfl) (fun _ _ _ h => h) (yields_pure (by kernel_rfl) (fun w => by kernel_rfl)) hS ?_
              refine takeR (i := 5) 96 rfl (by kernel_rfl) (by kernel_rfl) (by kernel_rfl) (by kernel_rfl) (fun _ _ _ h => h) (yields_load_row (by kernel_rfl) 62 _ rfl x11 (by kernel_rfl) 62 #[.int .i64 g1, .int .i64 size, (.slice uA k uc), .bool true, .int .i64 (t.ar)] _ (fun X h => h.2) Tryz.underlying62 rfl (by kernel_rfl)) hS ?_
              refine wpAnyH_all (rs := [6]) (by kernel_rfl) (by simp) ?_
              intro j hj
              obtain rfl : j = 6 := by simpa using hj
              refine opR_skip (w' := (World.putO W5.drew t.gm (.map ((mset (t.ml.map MdE.ent) n (.agg #[.int .i64 g1, .int .i64 size, (.slice uA k uc), .bool true, .int .i64 (t.ar)]) t.mc).map entM).toArray (mclk (t.ml.map MdE.ent) n t.mc)))) rfl (by kernel_rfl) (by kernel_rfl) (exec_mset (T := 52) (K := 3) (E := 62) (m := .tmp 94) (x := .tmp 95) (y := .tmp 96) (by kernel_rfl) Tryz.underlying52 Tryz.underlying3 (g := t.gm) (by kernel_rfl) (k := n) (by kernel_rfl) (v := .agg #[.int .i64 g1, .int .i64 size, (.slice uA k uc), .bool true, .int .i64 (t.ar)]) (by kernel_rfl) (Nu.out.getm t.gm)) ?_
              refine ⟨⟨Nv.out.getc s, Nv.out.getc x11⟩, ?_⟩
              refine wpAnyH_done (by kernel_rfl) ?_ _
              refine NoPanic.normal ?_
              simp only [Act.put, List.setIfInBounds_toArray, List.set_cons_succ, List.set_cons_zero]
              clear hS
              have MZ : Hid (Has B w (World.putO W5.drew t.gm (.map ((mset (t.ml.map MdE.ent) n (.agg #[.int .i64 g1, .int .i64 size, (.slice uA k uc), .bool true, .int .i64 (t.ar)]) t.mc).map entM).toArray (mclk (t.ml.map MdE.ent) n t.mc))) (Tl s (regT t n tm size true (.slice uA k uc)) Y)) := Lib.hid (by
                have h1 := Nv.out
                have e1 := mset_eset (ent := MdE.ent) (key := MdE.k) (st := MdE.b) (fun _ => rfl) (fun _ => rfl) (k := n) (v := .agg #[.int .i64 g1, .int .i64 size, (.slice uA k uc), .bool true, .int .i64 (t.ar)]) (mk := fun b => (⟨n, ⟨g1, size, tm, true, t.ar⟩, (.slice uA k uc), b⟩ : MdE)) (fun _ => rfl) t.mc t.ml
                rw [eset_new HFN.out] at e1
                have e2 := mclk_new (ent := MdE.ent) (key := MdE.k) (fun _ => rfl) (c := t.mc) HFN.out
                rw [e1, e2] at h1 ⊢
                have h2 := h1.norm (Star (Bt (.slice uA k uc) tm) (Star (All mdR t.ml) (Star (Cel s 56 (regT t n tm size true (.slice uA k uc)).arr) (Star (Mp t.gm ((t.ml ++ [(⟨n, ⟨g1, size, tm, true, t.ar⟩, (.slice uA k uc), t.mc⟩ : MdE)]).map MdE.ent) (t.mc + 1)) (Star (Mp t.gg ((gsetL t n g1).map GnE.ent) (mclk (t.gl.map GnE.ent) n t.gc)) (Star (Mp t.gt (t.tl.map ThE.ent) t.tc) (Star (All thR t.tl) Y)))))))
                have h3 : Has B w _ (Star (All mdR (t.ml ++ [(⟨n, ⟨g1, size, tm, true, t.ar⟩, (.slice uA k uc), t.mc⟩ : MdE)])) (Star (Cel s 56 (regT t n tm size true (.slice uA k uc)).arr) (Star (Mp t.gm ((t.ml ++ [(⟨n, ⟨g1, size, tm, true, t.ar⟩, (.slice uA k uc), t.mc⟩ : MdE)]).map MdE.ent) (t.mc + 1)) (Star (Mp t.gg ((gsetL t n g1).map GnE.ent) (mclk (t.gl.map GnE.ent) n t.gc)) (Star (Mp t.gt (t.tl.map ThE.ent) t.tc) (Star (All thR t.tl) Y)))))) := h2.imp (fun F hh => all_put (f := mdR) (x := (⟨n, ⟨g1, size, tm, true, t.ar⟩, (.slice uA k uc), t.mc⟩ : MdE)) (l1 := t.ml) (l2 := []) (by rw [List.append_nil]; exact hh))
                have h4 := h3.norm (Star (Cel s 56 (regT t n tm size true (.slice uA k uc)).arr) (Star (Mp t.gm ((t.ml ++ [(⟨n, ⟨g1, size, tm, true, t.ar⟩, (.slice uA k uc), t.mc⟩ : MdE)]).map MdE.ent) (t.mc + 1)) (Star (Mp t.gg ((gsetL t n g1).map GnE.ent) (mclk (t.gl.map GnE.ent) n t.gc)) (Star (Mp t.gt (t.tl.map ThE.ent) t.tc) (Star (All mdR (t.ml ++ [(⟨n, ⟨g1, size, tm, true, t.ar⟩, (.slice uA k uc), t.mc⟩ : MdE)])) (Star (All thR t.tl) Y))))))
                have h5 := HG1.out
                subst h5
                exact h4)
              have HE : Hid (RegE s t Y B w tm size true (.returned (.tuple #[.int .i64 n, .int .i64 0])) (World.putO W5.drew t.gm (.map ((mset (t.ml.map MdE.ent) n (.agg #[.int .i64 g1, .int .i64 size, (.slice uA k uc), .bool true, .int .i64 (t.ar)]) t.mc).map entM).toArray (mclk (t.ml.map MdE.ent) n t.mc)))) := Lib.hid (HHE.out _ _ ⟨n, HFR.out, by rw [if_neg h64]; (first | rw [if_neg HFULL.out] | rw [if_neg (fun hh => HFULL.out ⟨by first | rfl | exact absurd hh.1 (by decide), hh.2⟩)]); exact ⟨rfl, _, MZ.out⟩⟩)
              clear Nu Nv MZ
              go_wp2_with fail
              go_ret2
              exact HE.out
            focus
              refine opR_call 87 rfl rfl (by kernel_rfl) _ _ _ rfl _ (by kernel_rfl) ((CU _).mono ?_)
              rintro e X2 ⟨rfl, rfl⟩
              refine ⟨_, rfl, trivial, ?_⟩
              refine wpAnyH_all (rs := [3]) (by kernel_rfl) (by simp) ?_
              intro j hj
              obtain rfl : j = 3 := by simpa using hj
              refine opR_run (v := .int .i64 t.ar) (w' := W4.drew) 85 rfl (by kernel_rfl) (by kernel_rfl) (exec_load_cell 3 (.tmp 84) (by kernel_rfl) s 4 (by kernel_rfl) (.int .i64 t.ar) (Ny.out.cellat s 4 rfl) _ Tryz.underlying3 rfl) ?_
              refine ⟨trivial, ?_⟩
              refine takeR (i := 6) (v := .int .i64 (wrap64 (t.ar + upT size))) 88 rfl (by kernel_rfl) (by kernel_rfl) (by kernel_rfl) (by kernel_rfl) (fun _ _ _ h => h) (yields_pure (by kernel_rfl) (fun w => (show _ = Result.ok (Next.value (.int .i64 (IntKind.i64.wrap (t.ar + upT size)))) w by kernel_rfl).trans (by rw [i64_wrap64]))) hS ?_
              refine takeR (i := 7) (v := .pointer (some ⟨s, 0, none⟩)) 89 rfl (by kernel_rfl) (by kernel_rfl) (by kernel_rfl) (by kernel_rfl) (fun _ _ _ h => h) (yields_pure (by kernel_rfl) (fun w => by kernel_rfl)) hS ?_
              refine takeR (i := 8) (v := .pointer (some ⟨s, 4, none⟩)) 90 rfl (by kernel_rfl) (by kernel_rfl) (by kernel_rfl) (by kernel_rfl) (fun _ _ _ h => h) (yields_pure (by kernel_rfl) (fun w => by kernel_rfl)) hS ?_
              refine wpAnyH_all (rs := [9]) (by kernel_rfl) (by simp) ?_
              intro j hj
              obtain rfl : j = 9 := by simpa using hj
              refine opR_cell rfl (by kernel_rfl) (by kernel_rfl) 3 (.tmp 90) (.tmp 88) (by kernel_rfl) s 4 (wrap64 (t.ar + upT size)) (.int .i64 t.ar) (by kernel_rfl) (by kernel_rfl) (Ny.out.cellat s 4 rfl) (Ny.out.liveat s 4) Tryz.underlying3 (by kernel_rfl) ?_
              refine ⟨trivial, ?_⟩
              refine wpAnyH_done (by kernel_rfl) ?_ _
              refine NoPanic.normal ?_
              simp only [Act.put, List.setIfInBounds_toArray, List.set_cons_succ, List.set_cons_zero]
              obtain ⟨W5, hW⟩ : ∃ W5, W4.drew.setCell ⟨s, 4, none⟩ (.int .i64 (wrap64 (t.ar + upT size))) = W5 := ⟨_, rfl⟩
              rw [hW] at Nz ⊢
              clear hW Nx Ny hS
              go_upto_region 18 with fail
              have Nu := Lib.hid (Nz.out.stay ((Below.refl _ W5).drew))
              have Nv := Lib.hid (Nu.out.setm t.gm (mset (t.ml.map MdE.ent) n (.agg #[.int .i64 g1, .int .i64 size, (.slice uA k uc), .bool true, .int .i64 (t.ar)]) t.mc) (mclk (t.ml.map MdE.ent) n t.mc))
              have HC0 : Hid (∀ X : World, Blk X s 56 (regT t n tm size true (.slice uA k uc)).arr → X.cell? ⟨s, 0, none⟩ = some (.map (some t.gm))) := Lib.hid (fun X h => by rw [h.cell]; rfl)
              have hS0 : (fun X : World => Blk X s 56 (regT t n tm size true (.slice uA k uc)).arr ∧ Blk X x11 62 #[.int .i64 g1, .int .i64 size, (.slice uA k uc), .bool true, .int .i64 (t.ar)]) W5.drew := ⟨Nu.out.getc s, Nu.out.getc x11⟩
              refine wp_region_noPanic ?_
              refine wp_region_held_drew (S := (fun X : World => Blk X s 56 (regT t n tm size true (.slice uA k uc)).arr ∧ Blk X x11 62 #[.int .i64 g1, .int .i64 size, (.slice uA k uc), .bool true, .int .i64 (t.ar)])) (by kernel_rfl) hS0 ?_
              clear hS0
              intro hS
              refine takeR (i := 0) (v := .pointer (some ⟨s, 0, none⟩)) 91 rfl (by kernel_rfl) (by kernel_rfl) (by kernel_rfl) (by kernel_rfl) (fun _ _ _ h => h) (yields_pure (by kernel_rfl) (fun w => by kernel_rfl)) hS ?_
              refine takeR (i := 1) (v := .pointer (some ⟨s, 0, none⟩)) 92 rfl (by kernel_rfl) (by kernel_rfl) (by kernel_rfl) (by kernel_rfl) (fun _ _ _ h => h) (yields_pure (by kernel_rfl) (fun w => by kernel_rfl)) hS ?_
              refine takeR (i := 2) (v := .pointer (some ⟨s, 0, none⟩)) 93 rfl (by kernel_rfl) (by kernel_rfl) (by kernel_rfl) (by kernel_rfl) (fun _ _ _ h => h) (yields_pure (by kernel_rfl) (fun w => by kernel_rfl)) hS ?_
              refine takeR (i := 3) 94 rfl (by kernel_rfl) (by kernel_rfl) (by kernel_rfl) (by kernel_rfl) (fun _ _ _ h => h) (yields_load_cell (by kernel_rfl) 52 _ rfl s 0 (by kernel_rfl) (.map (some t.gm)) (fun X h => HC0.out X h.1) _ Tryz.underlying52 rfl) hS ?_
              refine takeR (i := 4) (v := .int .i64 n) 95 rfl (by kernel_rfl) (by kernel_rfl) (by kernel_rfl) (by kernel_rfl) (fun _ _ _ h => h) (yields_pure (by kernel_rfl) (fun w => by kernel_rfl)) hS ?_
              refine takeR (i := 5) 96 rfl (by kernel_rfl) (by kernel_rfl) (by kernel_rfl) (by kernel_rfl) (fun _ _ _ h => h) (yields_load_row (by kernel_rfl) 62 _ rfl x11 (by kernel_rfl) 62 #[.int .i64 g1, .int .i64 size, (.slice uA k uc), .bool true, .int .i64 (t.ar)] _ (fun X h => h.2) Tryz.underlying62 rfl (by kernel_rfl)) hS ?_
              refine wpAnyH_all (rs := [6]) (by kernel_rfl) (by simp) ?_
              intro j hj
              obtain rfl : j = 6 := by simpa using hj
              refine opR_skip (w' := (World.putO W5.drew t.gm (.map ((mset (t.ml.map MdE.ent) n (.agg #[.int .i64 g1, .int .i64 size, (.slice uA k uc), .bool true, .int .i64 (t.ar)]) t.mc).map entM).toArray (mclk (t.ml.map MdE.ent) n t.mc)))) rfl (by kernel_rfl) (by kernel_rfl) (exec_mset (T := 52) (K := 3) (E := 62) (m := .tmp 94) (x := .tmp 95) (y := .tmp 96) (by kernel_rfl) Tryz.underlying52 Tryz.underlying3 (g := t.gm) (by kernel_rfl) (k := n) (by kernel_rfl) (v := .agg #[.int .i64 g1, .int .i64 size, (.slice uA k uc), .bool true, .int .i64 (t.ar)]) (by kernel_rfl) (Nu.out.getm t.gm)) ?_
              refine ⟨⟨Nv.out.getc s, Nv.out.getc x11⟩, ?_⟩
              refine wpAnyH_done (by kernel_rfl) ?_ _
              refine NoPanic.normal ?_
              simp only [Act.put, List.setIfInBounds_toArray, List.set_cons_succ, List.set_cons_zero]
              clear hS
              have MZ : Hid (Has B w (World.putO W5.drew t.gm (.map ((mset (t.ml.map MdE.ent) n (.agg #[.int .i64 g1, .int .i64 size, (.slice uA k uc), .bool true, .int .i64 (t.ar)]) t.mc).map entM).toArray (mclk (t.ml.map MdE.ent) n t.mc))) (Tl s (regT t n tm size true (.slice uA k uc)) Y)) := Lib.hid (by
                have h1 := Nv.out
                have e1 := mset_eset (ent := MdE.ent) (key := MdE.k) (st := MdE.b) (fun _ => rfl) (fun _ => rfl) (k := n) (v := .agg #[.int .i64 g1, .int .i64 size, (.slice uA k uc), .bool true, .int .i64 (t.ar)]) (mk := fun b => (⟨n, ⟨g1, size, tm, true, t.ar⟩, (.slice uA k uc), b⟩ : MdE)) (fun _ => rfl) t.mc t.ml
                rw [eset_new HFN.out] at e1
                have e2 := mclk_new (ent := MdE.ent) (key := MdE.k) (fun _ => rfl) (c := t.mc) HFN.out
                rw [e1, e2] at h1 ⊢
                have h2 := h1.norm (Star (Bt (.slice uA k uc) tm) (Star (All mdR t.ml) (Star (Cel s 56 (regT t n tm size true (.slice uA k uc)).arr) (Star (Mp t.gm ((t.ml ++ [(⟨n, ⟨g1, size, tm, true, t.ar⟩, (.slice uA k uc), t.mc⟩ : MdE)]).map MdE.ent) (t.mc + 1)) (Star (Mp t.gg ((gsetL t n g1).map GnE.ent) (mclk (t.gl.map GnE.ent) n t.gc)) (Star (Mp t.gt (t.tl.map ThE.ent) t.tc) (Star (All thR t.tl) Y)))))))
                have h3 : Has B w _ (Star (All mdR (t.ml ++ [(⟨n, ⟨g1, size, tm, true, t.ar⟩, (.slice uA k uc), t.mc⟩ : MdE)])) (Star (Cel s 56 (regT t n tm size true (.slice uA k uc)).arr) (Star (Mp t.gm ((t.ml ++ [(⟨n, ⟨g1, size, tm, true, t.ar⟩, (.slice uA k uc), t.mc⟩ : MdE)]).map MdE.ent) (t.mc + 1)) (Star (Mp t.gg ((gsetL t n g1).map GnE.ent) (mclk (t.gl.map GnE.ent) n t.gc)) (Star (Mp t.gt (t.tl.map ThE.ent) t.tc) (Star (All thR t.tl) Y)))))) := h2.imp (fun F hh => all_put (f := mdR) (x := (⟨n, ⟨g1, size, tm, true, t.ar⟩, (.slice uA k uc), t.mc⟩ : MdE)) (l1 := t.ml) (l2 := []) (by rw [List.append_nil]; exact hh))
                have h4 := h3.norm (Star (Cel s 56 (regT t n tm size true (.slice uA k uc)).arr) (Star (Mp t.gm ((t.ml ++ [(⟨n, ⟨g1, size, tm, true, t.ar⟩, (.slice uA k uc), t.mc⟩ : MdE)]).map MdE.ent) (t.mc + 1)) (Star (Mp t.gg ((gsetL t n g1).map GnE.ent) (mclk (t.gl.map GnE.ent) n t.gc)) (Star (Mp t.gt (t.tl.map ThE.ent) t.tc) (Star (All mdR (t.ml ++ [(⟨n, ⟨g1, size, tm, true, t.ar⟩, (.slice uA k uc), t.mc⟩ : MdE)])) (Star (All thR t.tl) Y))))))
                have h5 := HG1.out
                subst h5
                exact h4)
              have HE : Hid (RegE s t Y B w tm size true (.returned (.tuple #[.int .i64 n, .int .i64 0])) (World.putO W5.drew t.gm (.map ((mset (t.ml.map MdE.ent) n (.agg #[.int .i64 g1, .int .i64 size, (.slice uA k uc), .bool true, .int .i64 (t.ar)]) t.mc).map entM).toArray (mclk (t.ml.map MdE.ent) n t.mc)))) := Lib.hid (HHE.out _ _ ⟨n, HFR.out, by rw [if_neg h64]; (first | rw [if_neg HFULL.out] | rw [if_neg (fun hh => HFULL.out ⟨by first | rfl | exact absurd hh.1 (by decide), hh.2⟩)]); exact ⟨rfl, _, MZ.out⟩⟩)
              clear Nu Nv MZ
              go_wp2_with fail
              go_ret2
              exact HE.out
        focus
          have Nf := Lib.hid (M1d.out.newcel 62 #[.int .i64 0, .int .i64 0, .slice none 0 0, .bool false, .int .i64 0])
          have hsr : SrcB (W1.drew.alloc (.cells #[.int .i64 0, .int .i64 0, .slice none 0 0, .bool false, .int .i64 0] 62)) A tm := fun hne => by
            obtain ⟨bb, off, hA, hc⟩ := HSR1.out hne
            exact ⟨bb, off, hA, fun j x hj => Lib.cell?_alloc_some _ (hc j x hj)⟩
          refine opR_run (v := .pointer (some ⟨W1.drew.heap.size, 0, none⟩)) (w' := W1.drew.alloc (.cells #[.int .i64 0, .int .i64 0, .slice none 0 0, .bool false, .int .i64 0] 62)) 11 rfl (by kernel_rfl) (by kernel_rfl) (by kernel_rfl) ?_
          refine ⟨SC.out _ Nf.out.right, ?_⟩
          clear hS
          have hS := SC.out _ Nf.out.right
          have C1 := clone_src (c := c) hsr (by rw [HK.out]; omega)
          rw [HK.out] at C1
          refine wpAnyH_all (rs := [8]) (by kernel_rfl) (by simp) ?_
          intro j hj
          obtain rfl : j = 8 := by simpa using hj
          refine opR_call 58 rfl rfl (by kernel_rfl) _ _ _ rfl _ (by kernel_rfl) (C1.mono ?_)
          rintro e X1 ⟨v1, rfl, hb1, hbel⟩
          obtain ⟨uA, uc, hu, -, -⟩ := hb1.src
          rw [HK.out] at hu
          subst hu
          have Ne := Lib.hid (Nf.out.bytes hb1 hbel)
          refine ⟨_, rfl, SC.out _ Ne.out.right.right, ?_⟩
          clear hS
          have hS := SC.out _ Ne.out.right.right
          clear hb1 hbel hsr C1
          refine takeR (i := 10) (v := .agg #[.int .i64 g1, .int .i64 size, (.slice uA k uc), .bool true, .int .i64 (0)]) 60 rfl (by kernel_rfl) (by kernel_rfl) (by kernel_rfl) (by kernel_rfl) (fun _ _ _ h => h) (yields_pure (by kernel_rfl) (fun w => by kernel_rfl)) hS ?_
          have Ng := Lib.hid (Ne.out.rowc W1.drew.heap.size #[.int .i64 g1, .int .i64 size, (.slice uA k uc), .bool true, .int .i64 (0)])
          refine wpAnyH_all (rs := [12]) (by kernel_rfl) (by simp) ?_
          intro j hj
          obtain rfl : j = 12 := by simpa using hj
          refine opR_store rfl (by kernel_rfl) (by kernel_rfl) 62 _ _ rfl W1.drew.heap.size #[.int .i64 g1, .int .i64 size, (.slice uA k uc), .bool true, .int .i64 (0)] (by kernel_rfl) (by kernel_rfl) 62 #[.int .i64 0, .int .i64 0, .slice none 0 0, .bool false, .int .i64 0] (Ne.out.getc _) (by kernel_rfl) rfl (by kernel_rfl) ?_
          refine ⟨SC.out _ Ng.out.right.right, ?_⟩
          refine wpAnyH_done (by kernel_rfl) ?_ _
          refine NoPanic.normal ?_
          simp only [Act.put, List.setIfInBounds_toArray, List.set_cons_succ, List.set_cons_zero]
          have Nn := Lib.hid (Ng.out.swap)
          generalize W1.drew.heap.size = x11 at Nn ⊢
          obtain ⟨W2, hW⟩ : ∃ W2, X1.setRow x11 #[.int .i64 g1, .int .i64 size, (.slice uA k uc), .bool true, .int .i64 (0)] = W2 := ⟨_, rfl⟩
          rw [hW] at Nn ⊢
          clear hW Ng Nf Ne hS SC M1d
          go_upto_region 13 with fail
          have Nd := Lib.hid (Nn.out.stay ((Below.refl _ W2).drew))
          have hS0 : (fun X : World => Blk X s 56 t.arr) W2.drew := Nd.out.getc s
          have HC4 : Hid (∀ X : World, Blk X s 56 t.arr → X.cell? ⟨s, 4, none⟩ = some (.int .i64 t.ar)) := Lib.hid (fun X h => by rw [h.cell]; rfl)
          have CU := fun w => tup_any size (by omega) (by omega) w
          refine wp_region_noPanic ?_
          refine wp_region_held_drew (S := fun X : World => Blk X s 56 t.arr) (by kernel_rfl) hS0 ?_
          clear hS0
          intro hS
          refine takeR (i := 0) (v := .int .i64 size) 62 rfl (by kernel_rfl) (by kernel_rfl) (by kernel_rfl) (by kernel_rfl) (fun _ _ _ h => h) (yields_pure (by kernel_rfl) (fun w => by kernel_rfl)) hS ?_
          refine takeR (i := 2) (v := .pointer (some ⟨s, 0, none⟩)) 64 rfl (by kernel_rfl) (by kernel_rfl) (by kernel_rfl) (by kernel_rfl) (fun _ _ _ h => h) (yields_pure (by kernel_rfl) (fun w => by kernel_rfl)) hS ?_
          refine takeR (i := 3) (v := .pointer (some ⟨s, 0, none⟩)) 65 rfl (by kernel_rfl) (by kernel_rfl) (by kernel_rfl) (by kernel_rfl) (fun _ _ _ h => h) (yields_pure (by kernel_rfl) (fun w => by kernel_rfl)) hS ?_
          refine takeR (i := 4) (v := .pointer (some ⟨s, 4, none⟩)) 66 rfl (by kernel_rfl) (by kernel_rfl) (by kernel_rfl) (by kernel_rfl) (fun _ _ _ h => h) (yields_pure (by kernel_rfl) (fun w => by kernel_rfl)) hS ?_
          refine takeR (i := 5) 67 rfl (by kernel_rfl) (by kernel_rfl) (by kernel_rfl) (by kernel_rfl) (fun _ _ _ h => h) (yields_load_cell (by kernel_rfl) 3 _ rfl s 4 (by kernel_rfl) (.int .i64 t.ar) (fun X h => HC4.out X h) _ Tryz.underlying3 rfl) hS ?_
          refine takeR (i := 6) (v := .int .i64 (wrap64 (4096 - t.ar))) 68 rfl (by kernel_rfl) (by kernel_rfl) (by kernel_rfl) (by kernel_rfl) (fun _ _ _ h => h) (yields_pure (by kernel_rfl) (fun w => (show _ = Result.ok (Next.value (.int .i64 (IntKind.i64.wrap (4096 - t.ar)))) w by kernel_rfl).trans (by rw [i64_wrap64]))) hS ?_
          refine wpAnyH_all (rs := [1]) (by kernel_rfl) (by simp) ?_
          intro j hj
          obtain rfl : j = 1 := by simpa using hj
          refine opR_call 63 rfl rfl (by kernel_rfl) _ _ _ rfl _ (by kernel_rfl) ((CU _).mono ?_)
          rintro e X2 ⟨rfl, rfl⟩
          refine ⟨_, rfl, hS, ?_⟩
          obtain ⟨bb, hbb⟩ : ∃ bb : Bool, decide (wrap64 (4096 - t.ar) < upT size) = bb := ⟨_, rfl⟩
          refine takeR (i := 7) (v := .bool bb) 69 rfl (by kernel_rfl) (by kernel_rfl) (by kernel_rfl) (by kernel_rfl) (fun _ _ _ h => h) (yields_pure (by kernel_rfl) (fun w => (show _ = Result.ok (Next.value (.bool (decide (wrap64 (4096 - t.ar) < upT size)))) w by kernel_rfl).trans (by rw [hbb]))) hS ?_
          refine wpAnyH_done (by kernel_rfl) ?_ _
          refine NoPanic.normal ?_
          simp only [Act.put, List.setIfInBounds_toArray, List.set_cons_succ, List.set_cons_zero]
          clear hS
          obtain ⟨W3, hW⟩ : ∃ W3, W2.drew = W3 := ⟨_, rfl⟩
          rw [hW] at Nd ⊢
          clear hW Nn
          have HBB := Lib.hid hbb
          clear hbb
          cases bb with
          | true =>
            have s1 : W3.cell? ⟨s, 1, none⟩ = some (.map (some t.gg)) := Nd.out.cellat s 1 rfl
            have MV2 := Lib.hid (Nd.out.setm t.gg (mset ((gsetL t n g1).map GnE.ent) n (.int .i64 (wrap64 (g1 - 1))) (mclk (t.gl.map GnE.ent) n t.gc)) (mclk ((gsetL t n g1).map GnE.ent) n (mclk (t.gl.map GnE.ent) n t.gc)))
            have HUP : Hid (true = true ∧ wrap64 (4096 - t.ar) < upT size) := Lib.hid ⟨rfl, of_decide_eq_true HBB.out⟩
            have HE : Hid (RegE s t Y B w tm size true (.returned (.tuple #[.int .i64 0, .int .i64 3])) (World.putO W3 t.gg (.map ((mset ((gsetL t n g1).map GnE.ent) n (.int .i64 (wrap64 (g1 - 1))) (mclk (t.gl.map GnE.ent) n t.gc)).map entM).toArray (mclk ((gsetL t n g1).map GnE.ent) n (mclk (t.gl.map GnE.ent) n t.gc))))) := Lib.hid (HHE.out _ _ ⟨n, HFR.out, by
              rw [if_neg h64]; (first | rw [if_pos HUP.out] | rw [if_pos (show True ∧ wrap64 (4096 - t.ar) < upT size from ⟨trivial, HUP.out.2⟩)])
              refine ⟨rfl, ?_⟩
              have h1 := MV2.out
              have e1 : mset ((gsetL t n g1).map GnE.ent) n (.int .i64 (wrap64 (g1 - 1))) (mclk (t.gl.map GnE.ent) n t.gc) = (gsetL (gsetT t n g1) n (wrap64 (g1 - 1))).map GnE.ent := gsetL_m (gsetT t n g1) n (wrap64 (g1 - 1))
              rw [e1] at h1 ⊢
              have h2 := h1.norm (Star (Cel s 56 t.arr) (Star (Mp t.gm (t.ml.map MdE.ent) t.mc) (Star (Mp t.gg ((gsetL (gsetT t n g1) n (wrap64 (g1 - 1))).map GnE.ent) (mclk ((gsetL t n g1).map GnE.ent) n (mclk (t.gl.map GnE.ent) n t.gc))) (Star (Mp t.gt (t.tl.map ThE.ent) t.tc) (Star (All mdR t.ml) (Star (All thR t.tl) Y))))))
              have h5 := HG1.out
              subst h5
              exact h2⟩)
            clear MV2
            go_wp2_with (first | (refine wpList_mlookV rfl 53 3 3 _ _ rfl Tryz.underlying53 Tryz.underlying3 t.gg _ _ rfl n rfl (Nd.out.getm t.gg) (.int .i64 0) z_int (.int .i64 g1) HGV.out ?_) | (refine wpList_mset rfl 53 3 3 _ _ _ rfl Tryz.underlying53 Tryz.underlying3 t.gg _ (mclk (t.gl.map GnE.ent) n t.gc) rfl n rfl (.int .i64 (wrap64 (g1 - 1))) rfl (Nd.out.getm t.gg) ?_))
            go_ret2
            exact HE.out
          | false =>
            have HFULL : Hid (¬ (true = true ∧ wrap64 (4096 - t.ar) < upT size)) := Lib.hid (fun hh => absurd hh.2 (of_decide_eq_false HBB.out))
            have s4 : W3.cell? ⟨s, 4, none⟩ = some (.int .i64 t.ar) := Nd.out.cellat s 4 rfl
            have x4 : W3.cell? ⟨x11, 4, none⟩ = some (.int .i64 0) := Nd.out.cellat x11 4 rfl
            have f4 : W3.frozen? ⟨x11, 4, none⟩ = false := Nd.out.liveat x11 4
            have Nx := Lib.hid (Nd.out.cellc x11 4 (.int .i64 t.ar) #[.int .i64 g1, .int .i64 size, (.slice uA k uc), .bool true, .int .i64 (t.ar)] rfl)
            go_upto_region 17 with fail
            obtain ⟨W4, hW⟩ : ∃ W4, W3.setCell ⟨x11, 4, none⟩ (.int .i64 t.ar) = W4 := ⟨_, rfl⟩
            rw [hW] at Nx ⊢
            clear hW s4 x4 f4 Nd
            have Ny := Lib.hid (Nx.out.stay ((Below.refl _ W4).drew))
            have Nz := Lib.hid (Ny.out.cellc s 4 (.int .i64 (wrap64 (t.ar + upT size))) (regT t n tm size true (.slice uA k uc)).arr rfl)
            refine wp_region_noPanic ?_
            refine wp_region_held_drew (S := fun _ : World => True) (by kernel_rfl) trivial ?_
            intro hS
            refine takeR (i := 0) (v := .pointer (some ⟨s, 0, none⟩)) 82 rfl (by kernel_rfl) (by kernel_rfl) (by kernel_rfl) (by kernel_rfl) (fun _ _ _ h => h) (yields_pure (by kernel_rfl) (fun w => by kernel_rfl)) hS ?_
            refine takeR (i := 1) (v := .pointer (some ⟨s, 0, none⟩)) 83 rfl (by kernel_rfl) (by kernel_rfl) (by kernel_rfl) (by kernel_rfl) (fun _ _ _ h => h) (yields_pure (by kernel_rfl) (fun w => by kernel_rfl)) hS ?_
            refine takeR (i := 2) (v := .pointer (some ⟨s, 4, none⟩)) 84 rfl (by kernel_rfl) (by kernel_rfl) (by kernel_rfl) (by kernel_rfl) (fun _ _ _ h => h) (yields_pure (by kernel_rfl) (fun w => by kernel_rfl)) hS ?_
            refine takeR (i := 4) (v := .int .i64 size) 86 rfl (by kernel_rfl) (by kernel_rfl) (by kernel_rfl) (by kernel_rfl) (fun _ _ _ h => h) (yields_pure (by kernel_rfl) (fun w => by kernel_rfl)) hS ?_
            refine wpAnyH_all (rs := [3, 5]) (by kernel_rfl) (by simp) ?_
            intro j hj
            obtain rfl | rfl : j = 3 ∨ j = 5 := by simpa using hj
            focus
              refine opR_run (v := .int .i64 t.ar) (w' := W4.drew) 85 rfl (by kernel_rfl) (by kernel_rfl) (exec_load_cell 3 (.tmp 84) (by kernel_rfl) s 4 (by kernel_rfl) (.int .i64 t.ar) (Ny.out.cellat s 4 rfl) _ Tryz.underlying3 rfl) ?_
              refine ⟨trivial, ?_⟩
              refine wpAnyH_all (rs := [5]) (by kernel_rfl) (by simp) ?_
              intro j hj
              obtain rfl : j = 5 := by simpa using hj
              refine opR_call 87 rfl rfl (by kernel_rfl) _ _ _ rfl _ (by kernel_rfl) ((CU _).mono ?_)
              rintro e X2 ⟨rfl, rfl⟩
              refine ⟨_, rfl, trivial, ?_⟩
              refine takeR (i := 6) (v := .int .i64 (wrap64 (t.ar + upT size))) 88 rfl (by kernel_rfl) (by kernel_rfl) (by kernel_rfl) (by kernel_rfl) (fun _ _ _ h => h) (yields_pure (by kernel_rfl) (fun w => (show _ = Result.ok (Next.value (.int .i64 (IntKind.i64.wrap (t.ar + upT size)))) w by kernel_rfl).trans (by rw [i64_wrap64]))) hS ?_
              refine takeR (i := 7) (v := .pointer (some ⟨s, 0, none⟩)) 89 rfl (by kernel_rfl) (by kernel_rfl) (by kernel_rfl) (by kernel_rfl) (fun _ _ _ h => h) (yields_pure (by kernel_rfl) (fun w => by kernel_rfl)) hS ?_
              refine takeR (i := 8) (v := .pointer (some ⟨s, 4, none⟩)) 90 rfl (by kernel_rfl) (by kernel_rfl) (by kernel_rfl) (by kernel_rfl) (fun _ _ _ h => h) (yields_pure (by kernel_rfl) (fun w => by kernel_rfl)) hS ?_
              refine wpAnyH_all (rs := [9]) (by kernel_rfl) (by simp) ?_
              intro j hj
              obtain rfl : j = 9 := by simpa using hj
              refine opR_cell rfl (by kernel_rfl) (by kernel_rfl) 3 (.tmp 90) (.tmp 88) (by kernel_rfl) s 4 (wrap64 (t.ar + upT size)) (.int .i64 t.ar) (by kernel_rfl) (by kernel_rfl) (Ny.out.cellat s 4 rfl) (Ny.out.liveat s 4) Tryz.underlying3 (by kernel_rfl) ?_
              refine ⟨trivial, ?_⟩
              refine wpAnyH_done (by kernel_rfl) ?_ _
              refine NoPanic.normal ?_
              simp only [Act.put, List.setIfInBounds_toArray, List.set_cons_succ, List.set_cons_zero]
              obtain ⟨W5, hW⟩ : ∃ W5, W4.drew.setCell ⟨s, 4, none⟩ (.int .i64 (wrap64 (t.ar + upT size))) = W5 := ⟨_, rfl⟩
              rw [hW] at Nz ⊢
              clear hW Nx Ny hS
              go_upto_region 18 with fail
              have Nu := Lib.hid (Nz.out.stay ((Below.refl _ W5).drew))
              have Nv := Lib.hid (Nu.out.setm t.gm (mset (t.ml.map MdE.ent) n (.agg #[.int .i64 g1, .int .i64 size, (.slice uA k uc), .bool true, .int .i64 (t.ar)]) t.mc) (mclk (t.ml.map MdE.ent) n t.mc))
              have HC0 : Hid (∀ X : World, Blk X s 56 (regT t n tm size true (.slice uA k uc)).arr → X.cell? ⟨s, 0, none⟩ = some (.map (some t.gm))) := Lib.hid (fun X h => by rw [h.cell]; rfl)
              have hS0 : (fun X : World => Blk X s 56 (regT t n tm size true (.slice uA k uc)).arr ∧ Blk X x11 62 #[.int .i64 g1, .int .i64 size, (.slice uA k uc), .bool true, .int .i64 (t.ar)]) W5.drew := ⟨Nu.out.getc s, Nu.out.getc x11⟩
              refine wp_region_noPanic ?_
              refine wp_region_held_drew (S := (fun X : World => Blk X s 56 (regT t n tm size true (.slice uA k uc)).arr ∧ Blk X x11 62 #[.int .i64 g1, .int .i64 size, (.slice uA k uc), .bool true, .int .i64 (t.ar)])) (by kernel_rfl) hS0 ?_
              clear hS0
              intro hS
              refine takeR (i := 0) (v := .pointer (some ⟨s, 0, none⟩)) 91 rfl (by kernel_rfl) (by kernel_rfl) (by kernel_rfl) (by kernel_rfl) (fun _ _ _ h => h) (yields_pure (by kernel_rfl) (fun w => by kernel_rfl)) hS ?_
              refine takeR (i := 1) (v := .pointer (some ⟨s, 0, none⟩)) 92 rfl (by kernel_rfl) (by kernel_rfl) (by kernel_rfl) (by kernel_rfl) (fun _ _ _ h => h) (yields_pure (by kernel_rfl) (fun w => by kernel_rfl)) hS ?_
              refine takeR (i := 2) (v := .pointer (some ⟨s, 0, none⟩)) 93 rfl (by kernel_rfl) (by kernel_rfl) (by kernel_rfl) (by kernel_rfl) (fun _ _ _ h => h) (yields_pure (by kernel_rfl) (fun w => by kernel_rfl)) hS ?_
              refine takeR (i := 3) 94 rfl (by kernel_rfl) (by kernel_rfl) (by kernel_rfl) (by kernel_rfl) (fun _ _ _ h => h) (yields_load_cell (by kernel_rfl) 52 _ rfl s 0 (by kernel_rfl) (.map (some t.gm)) (fun X h => HC0.out X h.1) _ Tryz.underlying52 rfl) hS ?_
              refine takeR (i := 4) (v := .int .i64 n) 95 rfl (by kernel_rfl) (by kernel_rfl) (by kernel_rfl) (by kernel_rfl) (fun _ _ _ h => h) (yields_pure (by kernel_rfl) (fun w => by kernel_rfl)) hS ?_
              refine takeR (i := 5) 96 rfl (by kernel_rfl) (by kernel_rfl) (by kernel_rfl) (by kernel_rfl) (fun _ _ _ h => h) (yields_load_row (by kernel_rfl) 62 _ rfl x11 (by kernel_rfl) 62 #[.int .i64 g1, .int .i64 size, (.slice uA k uc), .bool true, .int .i64 (t.ar)] _ (fun X h => h.2) Tryz.underlying62 rfl (by kernel_rfl)) hS ?_
              refine wpAnyH_all (rs := [6]) (by kernel_rfl) (by simp) ?_
              intro j hj
              obtain rfl : j = 6 := by simpa using hj
              refine opR_skip (w' := (World.putO W5.drew t.gm (.map ((mset (t.ml.map MdE.ent) n (.agg #[.int .i64 g1, .int .i64 size, (.slice uA k uc), .bool true, .int .i64 (t.ar)]) t.mc).map entM).toArray (mclk (t.ml.map MdE.ent) n t.mc)))) rfl (by kernel_rfl) (by kernel_rfl) (exec_mset (T := 52) (K := 3) (E := 62) (m := .tmp 94) (x := .tmp 95) (y := .tmp 96) (by kernel_rfl) Tryz.underlying52 Tryz.underlying3 (g := t.gm) (by kernel_rfl) (k := n) (by kernel_rfl) (v := .agg #[.int .i64 g1, .int .i64 size, (.slice uA k uc), .bool true, .int .i64 (t.ar)]) (by kernel_rfl) (Nu.out.getm t.gm)) ?_
              refine ⟨⟨Nv.out.getc s, Nv.out.getc x11⟩, ?_⟩
              refine wpAnyH_done (by kernel_rfl) ?_ _
              refine NoPanic.normal ?_
              simp only [Act.put, List.setIfInBounds_toArray, List.set_cons_succ, List.set_cons_zero]
              clear hS
              have MZ : Hid (Has B w (World.putO W5.drew t.gm (.map ((mset (t.ml.map MdE.ent) n (.agg #[.int .i64 g1, .int .i64 size, (.slice uA k uc), .bool true, .int .i64 (t.ar)]) t.mc).map entM).toArray (mclk (t.ml.map MdE.ent) n t.mc))) (Tl s (regT t n tm size true (.slice uA k uc)) Y)) := Lib.hid (by
                have h1 := Nv.out
                have e1 := mset_eset (ent := MdE.ent) (key := MdE.k) (st := MdE.b) (fun _ => rfl) (fun _ => rfl) (k := n) (v := .agg #[.int .i64 g1, .int .i64 size, (.slice uA k uc), .bool true, .int .i64 (t.ar)]) (mk := fun b => (⟨n, ⟨g1, size, tm, true, t.ar⟩, (.slice uA k uc), b⟩ : MdE)) (fun _ => rfl) t.mc t.ml
                rw [eset_new HFN.out] at e1
                have e2 := mclk_new (ent := MdE.ent) (key := MdE.k) (fun _ => rfl) (c := t.mc) HFN.out
                rw [e1, e2] at h1 ⊢
                have h2 := h1.norm (Star (Bt (.slice uA k uc) tm) (Star (All mdR t.ml) (Star (Cel s 56 (regT t n tm size true (.slice uA k uc)).arr) (Star (Mp t.gm ((t.ml ++ [(⟨n, ⟨g1, size, tm, true, t.ar⟩, (.slice uA k uc), t.mc⟩ : MdE)]).map MdE.ent) (t.mc + 1)) (Star (Mp t.gg ((gsetL t n g1).map GnE.ent) (mclk (t.gl.map GnE.ent) n t.gc)) (Star (Mp t.gt (t.tl.map ThE.ent) t.tc) (Star (All thR t.tl) Y)))))))
                have h3 : Has B w _ (Star (All mdR (t.ml ++ [(⟨n, ⟨g1, size, tm, true, t.ar⟩, (.slice uA k uc), t.mc⟩ : MdE)])) (Star (Cel s 56 (regT t n tm size true (.slice uA k uc)).arr) (Star (Mp t.gm ((t.ml ++ [(⟨n, ⟨g1, size, tm, true, t.ar⟩, (.slice uA k uc), t.mc⟩ : MdE)]).map MdE.ent) (t.mc + 1)) (Star (Mp t.gg ((gsetL t n g1).map GnE.ent) (mclk (t.gl.map GnE.ent) n t.gc)) (Star (Mp t.gt (t.tl.map ThE.ent) t.tc) (Star (All thR t.tl) Y)))))) := h2.imp (fun F hh => all_put (f := mdR) (x := (⟨n, ⟨g1, size, tm, true, t.ar⟩, (.slice uA k uc), t.mc⟩ : MdE)) (l1 := t.ml) (l2 := []) (by rw [List.append_nil]; exact hh))
                have h4 := h3.norm (Star (Cel s 56 (regT t n tm size true (.slice uA k uc)).arr) (Star (Mp t.gm ((t.ml ++ [(⟨n, ⟨g1, size, tm, true, t.ar⟩, (.slice uA k uc), t.mc⟩ : MdE)]).map MdE.ent) (t.mc + 1)) (Star (Mp t.gg ((gsetL t n g1).map GnE.ent) (mclk (t.gl.map GnE.ent) n t.gc)) (Star (Mp t.gt (t.tl.map ThE.ent) t.tc) (Star (All mdR (t.ml ++ [(⟨n, ⟨g1, size, tm, true, t.ar⟩, (.slice uA k uc), t.mc⟩ : MdE)])) (Star (All thR t.tl) Y))))))
                have h5 := HG1.out
                subst h5
                exact h4)
              have HE : Hid (RegE s t Y B w tm size true (.returned (.tuple #[.int .i64 n, .int .i64 0])) (World.putO W5.drew t.gm (.map ((mset (t.ml.map MdE.ent) n (.agg #[.int .i64 g1, .int .i64 size, (.slice uA k uc), .bool true, .int .i64 (t.ar)]) t.mc).map entM).toArray (mclk (t.ml.map MdE.ent) n t.mc)))) := Lib.hid (HHE.out _ _ ⟨n, HFR.out, by rw [if_neg h64]; (first | rw [if_neg HFULL.out] | rw [if_neg (fun hh => HFULL.out ⟨by first | rfl | exact absurd hh.1 (by decide), hh.2⟩)]); exact ⟨rfl, _, MZ.out⟩⟩)
              clear Nu Nv MZ
              go_wp2_with fail
              go_ret2
              exact HE.out
            focus
              refine opR_call 87 rfl rfl (by kernel_rfl) _ _ _ rfl _ (by kernel_rfl) ((CU _).mono ?_)
              rintro e X2 ⟨rfl, rfl⟩
              refine ⟨_, rfl, trivial, ?_⟩
              refine wpAnyH_all (rs := [3]) (by kernel_rfl) (by simp) ?_
              intro j hj
              obtain rfl : j = 3 := by simpa using hj
              refine opR_run (v := .int .i64 t.ar) (w' := W4.drew) 85 rfl (by kernel_rfl) (by kernel_rfl) (exec_load_cell 3 (.tmp 84) (by kernel_rfl) s 4 (by kernel_rfl) (.int .i64 t.ar) (Ny.out.cellat s 4 rfl) _ Tryz.underlying3 rfl) ?_
              refine ⟨trivial, ?_⟩
              refine takeR (i := 6) (v := .int .i64 (wrap64 (t.ar + upT size))) 88 rfl (by kernel_rfl) (by kernel_rfl) (by kernel_rfl) (by kernel_rfl) (fun _ _ _ h => h) (yields_pure (by kernel_rfl) (fun w => (show _ = Result.ok (Next.value (.int .i64 (IntKind.i64.wrap (t.ar + upT size)))) w by kernel_rfl).trans (by rw [i64_wrap64]))) hS ?_
              refine takeR (i := 7) (v := .pointer (some ⟨s, 0, none⟩)) 89 rfl (by kernel_rfl) (by kernel_rfl) (by kernel_rfl) (by kernel_rfl) (fun _ _ _ h => h) (yields_pure (by kernel_rfl) (fun w => by kernel_rfl)) hS ?_
              refine takeR (i := 8) (v := .pointer (some ⟨s, 4, none⟩)) 90 rfl (by kernel_rfl) (by kernel_rfl) (by kernel_rfl) (by kernel_rfl) (fun _ _ _ h => h) (yields_pure (by kernel_rfl) (fun w => by kernel_rfl)) hS ?_
              refine wpAnyH_all (rs := [9]) (by kernel_rfl) (by simp) ?_
              intro j hj
              obtain rfl : j = 9 := by simpa using hj
              refine opR_cell rfl (by kernel_rfl) (by kernel_rfl) 3 (.tmp 90) (.tmp 88) (by kernel_rfl) s 4 (wrap64 (t.ar + upT size)) (.int .i64 t.ar) (by kernel_rfl) (by kernel_rfl) (Ny.out.cellat s 4 rfl) (Ny.out.liveat s 4) Tryz.underlying3 (by kernel_rfl) ?_
              refine ⟨trivial, ?_⟩
              refine wpAnyH_done (by kernel_rfl) ?_ _
              refine NoPanic.normal ?_
              simp only [Act.put, List.setIfInBounds_toArray, List.set_cons_succ, List.set_cons_zero]
              obtain ⟨W5, hW⟩ : ∃ W5, W4.drew.setCell ⟨s, 4, none⟩ (.int .i64 (wrap64 (t.ar + upT size))) = W5 := ⟨_, rfl⟩
              rw [hW] at Nz ⊢
              clear hW Nx Ny hS
              go_upto_region 18 with fail
              have Nu := Lib.hid (Nz.out.stay ((Below.refl _ W5).drew))
              have Nv := Lib.hid (Nu.out.setm t.gm (mset (t.ml.map MdE.ent) n (.agg #[.int .i64 g1, .int .i64 size, (.slice uA k uc), .bool true, .int .i64 (t.ar)]) t.mc) (mclk (t.ml.map MdE.ent) n t.mc))
              have HC0 : Hid (∀ X : World, Blk X s 56 (regT t n tm size true (.slice uA k uc)).arr → X.cell? ⟨s, 0, none⟩ = some (.map (some t.gm))) := Lib.hid (fun X h => by rw [h.cell]; rfl)
              have hS0 : (fun X : World => Blk X s 56 (regT t n tm size true (.slice uA k uc)).arr ∧ Blk X x11 62 #[.int .i64 g1, .int .i64 size, (.slice uA k uc), .bool true, .int .i64 (t.ar)]) W5.drew := ⟨Nu.out.getc s, Nu.out.getc x11⟩
              refine wp_region_noPanic ?_
              refine wp_region_held_drew (S := (fun X : World => Blk X s 56 (regT t n tm size true (.slice uA k uc)).arr ∧ Blk X x11 62 #[.int .i64 g1, .int .i64 size, (.slice uA k uc), .bool true, .int .i64 (t.ar)])) (by kernel_rfl) hS0 ?_
              clear hS0
              intro hS
              refine takeR (i := 0) (v := .pointer (some ⟨s, 0, none⟩)) 91 rfl (by kernel_rfl) (by kernel_rfl) (by kernel_rfl) (by kernel_rfl) (fun _ _ _ h => h) (yields_pure (by kernel_rfl) (fun w => by kernel_rfl)) hS ?_
              refine takeR (i := 1) (v := .pointer (some ⟨s, 0, none⟩)) 92 rfl (by kernel_rfl) (by kernel_rfl) (by kernel_rfl) (by kernel_rfl) (fun _ _ _ h => h) (yields_pure (by kernel_rfl) (fun w => by kernel_rfl)) hS ?_
              refine takeR (i := 2) (v := .pointer (some ⟨s, 0, none⟩)) 93 rfl (by kernel_rfl) (by kernel_rfl) (by kernel_rfl) (by kernel_rfl) (fun _ _ _ h => h) (yields_pure (by kernel_rfl) (fun w => by kernel_rfl)) hS ?_
              refine takeR (i := 3) 94 rfl (by kernel_rfl) (by kernel_rfl) (by kernel_rfl) (by kernel_rfl) (fun _ _ _ h => h) (yields_load_cell (by kernel_rfl) 52 _ rfl s 0 (by kernel_rfl) (.map (some t.gm)) (fun X h => HC0.out X h.1) _ Tryz.underlying52 rfl) hS ?_
              refine takeR (i := 4) (v := .int .i64 n) 95 rfl (by kernel_rfl) (by kernel_rfl) (by kernel_rfl) (by kernel_rfl) (fun _ _ _ h => h) (yields_pure (by kernel_rfl) (fun w => by kernel_rfl)) hS ?_
              refine takeR (i := 5) 96 rfl (by kernel_rfl) (by kernel_rfl) (by kernel_rfl) (by kernel_rfl) (fun _ _ _ h => h) (yields_load_row (by kernel_rfl) 62 _ rfl x11 (by kernel_rfl) 62 #[.int .i64 g1, .int .i64 size, (.slice uA k uc), .bool true, .int .i64 (t.ar)] _ (fun X h => h.2) Tryz.underlying62 rfl (by kernel_rfl)) hS ?_
              refine wpAnyH_all (rs := [6]) (by kernel_rfl) (by simp) ?_
              intro j hj
              obtain rfl : j = 6 := by simpa using hj
              refine opR_skip (w' := (World.putO W5.drew t.gm (.map ((mset (t.ml.map MdE.ent) n (.agg #[.int .i64 g1, .int .i64 size, (.slice uA k uc), .bool true, .int .i64 (t.ar)]) t.mc).map entM).toArray (mclk (t.ml.map MdE.ent) n t.mc)))) rfl (by kernel_rfl) (by kernel_rfl) (exec_mset (T := 52) (K := 3) (E := 62) (m := .tmp 94) (x := .tmp 95) (y := .tmp 96) (by kernel_rfl) Tryz.underlying52 Tryz.underlying3 (g := t.gm) (by kernel_rfl) (k := n) (by kernel_rfl) (v := .agg #[.int .i64 g1, .int .i64 size, (.slice uA k uc), .bool true, .int .i64 (t.ar)]) (by kernel_rfl) (Nu.out.getm t.gm)) ?_
              refine ⟨⟨Nv.out.getc s, Nv.out.getc x11⟩, ?_⟩
              refine wpAnyH_done (by kernel_rfl) ?_ _
              refine NoPanic.normal ?_
              simp only [Act.put, List.setIfInBounds_toArray, List.set_cons_succ, List.set_cons_zero]
              clear hS
              have MZ : Hid (Has B w (World.putO W5.drew t.gm (.map ((mset (t.ml.map MdE.ent) n (.agg #[.int .i64 g1, .int .i64 size, (.slice uA k uc), .bool true, .int .i64 (t.ar)]) t.mc).map entM).toArray (mclk (t.ml.map MdE.ent) n t.mc))) (Tl s (regT t n tm size true (.slice uA k uc)) Y)) := Lib.hid (by
                have h1 := Nv.out
                have e1 := mset_eset (ent := MdE.ent) (key := MdE.k) (st := MdE.b) (fun _ => rfl) (fun _ => rfl) (k := n) (v := .agg #[.int .i64 g1, .int .i64 size, (.slice uA k uc), .bool true, .int .i64 (t.ar)]) (mk := fun b => (⟨n, ⟨g1, size, tm, true, t.ar⟩, (.slice uA k uc), b⟩ : MdE)) (fun _ => rfl) t.mc t.ml
                rw [eset_new HFN.out] at e1
                have e2 := mclk_new (ent := MdE.ent) (key := MdE.k) (fun _ => rfl) (c := t.mc) HFN.out
                rw [e1, e2] at h1 ⊢
                have h2 := h1.norm (Star (Bt (.slice uA k uc) tm) (Star (All mdR t.ml) (Star (Cel s 56 (regT t n tm size true (.slice uA k uc)).arr) (Star (Mp t.gm ((t.ml ++ [(⟨n, ⟨g1, size, tm, true, t.ar⟩, (.slice uA k uc), t.mc⟩ : MdE)]).map MdE.ent) (t.mc + 1)) (Star (Mp t.gg ((gsetL t n g1).map GnE.ent) (mclk (t.gl.map GnE.ent) n t.gc)) (Star (Mp t.gt (t.tl.map ThE.ent) t.tc) (Star (All thR t.tl) Y)))))))
                have h3 : Has B w _ (Star (All mdR (t.ml ++ [(⟨n, ⟨g1, size, tm, true, t.ar⟩, (.slice uA k uc), t.mc⟩ : MdE)])) (Star (Cel s 56 (regT t n tm size true (.slice uA k uc)).arr) (Star (Mp t.gm ((t.ml ++ [(⟨n, ⟨g1, size, tm, true, t.ar⟩, (.slice uA k uc), t.mc⟩ : MdE)]).map MdE.ent) (t.mc + 1)) (Star (Mp t.gg ((gsetL t n g1).map GnE.ent) (mclk (t.gl.map GnE.ent) n t.gc)) (Star (Mp t.gt (t.tl.map ThE.ent) t.tc) (Star (All thR t.tl) Y)))))) := h2.imp (fun F hh => all_put (f := mdR) (x := (⟨n, ⟨g1, size, tm, true, t.ar⟩, (.slice uA k uc), t.mc⟩ : MdE)) (l1 := t.ml) (l2 := []) (by rw [List.append_nil]; exact hh))
                have h4 := h3.norm (Star (Cel s 56 (regT t n tm size true (.slice uA k uc)).arr) (Star (Mp t.gm ((t.ml ++ [(⟨n, ⟨g1, size, tm, true, t.ar⟩, (.slice uA k uc), t.mc⟩ : MdE)]).map MdE.ent) (t.mc + 1)) (Star (Mp t.gg ((gsetL t n g1).map GnE.ent) (mclk (t.gl.map GnE.ent) n t.gc)) (Star (Mp t.gt (t.tl.map ThE.ent) t.tc) (Star (All mdR (t.ml ++ [(⟨n, ⟨g1, size, tm, true, t.ar⟩, (.slice uA k uc), t.mc⟩ : MdE)])) (Star (All thR t.tl) Y))))))
                have h5 := HG1.out
                subst h5
                exact h4)
              have HE : Hid (RegE s t Y B w tm size true (.returned (.tuple #[.int .i64 n, .int .i64 0])) (World.putO W5.drew t.gm (.map ((mset (t.ml.map MdE.ent) n (.agg #[.int .i64 g1, .int .i64 size, (.slice uA k uc), .bool true, .int .i64 (t.ar)]) t.mc).map entM).toArray (mclk (t.ml.map MdE.ent) n t.mc)))) := Lib.hid (HHE.out _ _ ⟨n, HFR.out, by rw [if_neg h64]; (first | rw [if_neg HFULL.out] | rw [if_neg (fun hh => HFULL.out ⟨by first | rfl | exact absurd hh.1 (by decide), hh.2⟩)]); exact ⟨rfl, _, MZ.out⟩⟩)
              clear Nu Nv MZ
              go_wp2_with fail
              go_ret2
              exact HE.out
end Go.Proofs.YtpenejigebkkmaaGreat
