/-
  Layer 17, the document's side: Register.
  Conditions: none. (My own text.)
-/
import Derived.Test.YtpenejigebkkmaaGreatTgg
namespace Go.Proofs.YtpenejigebkkmaaGreat
open Go.RowKit Spm
set_option linter.unusedVariables false
set_option linter.unusedSimpArgs false
attribute [local irreducible] wpList

def DRegE (r : Nat) (d : Dt) (Y : Res) (B : Nat) (w : World) (tm : List UInt8) (size : Int) (st : Bool) (e : Ending) (w' : World) : Prop := ∃ n k d', DRegP d tm size st n k d' ∧ e = .returned (.tuple #[.int .i64 n, .int .i64 k]) ∧ Has B w w' (Dl r d' Y)
theorem dfree_len {l : List DM} {n : Int} (h0 : 1 ≤ n) (h : ∀ k, 1 ≤ k → k < n → ∃ x ∈ l, x.n = k) : n ≤ (l.length : Int) + 1 := by
  obtain ⟨m, rfl⟩ : ∃ m : Nat, n = (m : Int) + 1 := ⟨(n - 1).toNat, by omega⟩
  have hlen := nodup_sub_len ((List.range m).map fun i : Nat => (i : Int) + 1) (l.map DM.n) (by
    unfold List.Nodup
    rw [List.pairwise_map]
    refine List.Pairwise.imp ?_ (List.pairwise_lt_range (n := m))
    intro a b hab
    omega) (fun x hx => by
    obtain ⟨i, hi, rfl⟩ := List.mem_map.1 hx
    have := List.mem_range.1 hi
    obtain ⟨z, hz, hzn⟩ := h ((i : Int) + 1) (by omega) (by omega)
    rw [← hzn]
    exact List.mem_map_of_mem hz)
  rw [List.length_map, List.length_map, List.length_range] at hlen
  omega
theorem gAt_neg {gl : List Int} {k : Int} (h : k < 0) : gAt gl k = 0 := by unfold gAt; rw [if_pos (.inl h)]
theorem gAt_nat (gl : List Int) (m : Nat) : gAt gl m = gl[m]?.getD 0 := by
  unfold gAt
  by_cases h1 : (gl.length : Int) ≤ m
  · rw [if_pos (.inr h1), List.getElem?_eq_none (by omega)]
    rfl
  · rw [if_neg (by omega), List.getD_eq_getElem?_getD, Int.toNat_natCast]
theorem gAt_app0 (gl : List Int) (k : Int) : gAt (gl ++ [0]) k = gAt gl k := by
  by_cases h0 : k < 0
  · rw [gAt_neg h0, gAt_neg h0]
  obtain ⟨m, rfl⟩ : ∃ m : Nat, k = m := ⟨k.toNat, by omega⟩
  rw [gAt_nat, gAt_nat]
  by_cases h1 : m < gl.length
  · rw [List.getElem?_append_left h1]
  · rw [List.getElem?_append_right (by omega), List.getElem?_eq_none (l := gl) (by omega)]
    cases hm : m - gl.length with
    | zero => rfl
    | succ n => rfl
theorem gAt_set {gl : List Int} {m : Nat} (hm : m < gl.length) (v k : Int) : gAt (gl.set m v) k = if k = m then v else gAt gl k := by
  by_cases h0 : k < 0
  · rw [gAt_neg h0, gAt_neg h0]
    split
    · omega
    · rfl
  obtain ⟨j, rfl⟩ : ∃ j : Nat, k = j := ⟨k.toNat, by omega⟩
  rw [gAt_nat, gAt_nat, List.getElem?_set]
  by_cases hk : m = j
  · subst hk
    rw [if_pos rfl, if_pos hm, if_pos rfl]
    rfl
  · rw [if_neg hk, if_neg (by omega)]
theorem gAt_get {gl : List Int} {m : Nat} {x : Int} (h : gl[m]? = some x) : gAt gl m = x := by
  rw [gAt_nat, h]
  rfl
theorem mIdx_neg {l : List DM} {n : Int} (h : mIdx l n = -1) : ∀ x ∈ l, x.n ≠ n := fun x hx => by
  rcases idxI_cases (fun x : DM => decide (x.n = n)) l with ⟨h1, h2⟩ | ⟨l1, y, l2, h1, h2, h3, h4⟩
  · exact of_decide_eq_false (h2 x hx)
  · have : mIdx l n = (l1.length : Nat) := h2
    omega
theorem mIdx_pos {l : List DM} {n : Int} (h : mIdx l n ≠ -1) : 0 ≤ mIdx l n ∧ ∃ x ∈ l, x.n = n := by
  rcases idxI_cases (fun x : DM => decide (x.n = n)) l with ⟨h1, h2⟩ | ⟨l1, y, l2, h1, h2, h3, h4⟩
  · exact absurd h1 h
  · have : mIdx l n = (l1.length : Nat) := h2
    exact ⟨by omega, y, by rw [h1]; simp, of_decide_eq_true h3⟩
/-- What is wrong with it, before anything is done. -/
theorem dreg_args {d : Dt} {tm : List UInt8} {size : Int} {st : Bool} (h : size < 1 ∨ 4096 < size ∨ size < tm.length) : DRegP d tm size st 0 1 d := by unfold DRegP; rw [if_pos h]; exact ⟨rfl, rfl, rfl⟩
theorem dreg_sealed {d : Dt} {tm : List UInt8} {size : Int} {st : Bool} (h1 : ¬ (size < 1 ∨ 4096 < size ∨ size < tm.length)) (h : st = true ∧ d.sd = true) : DRegP d tm size st 0 172 d := by unfold DRegP; rw [if_neg h1, if_pos h]; exact ⟨rfl, rfl, rfl⟩
theorem dreg_full {d : Dt} {tm : List UInt8} {size : Int} {st : Bool} (h1 : ¬ (size < 1 ∨ 4096 < size ∨ size < tm.length)) (h2 : ¬ (st = true ∧ d.sd = true)) (h : 64 ≤ d.ml.length ∨ (st = true ∧ 4096 < d.ar + upT size)) : DRegP d tm size st 0 3 d := by unfold DRegP; rw [if_neg h1, if_neg h2, if_pos h]; exact ⟨rfl, rfl, rfl⟩
def RegOk (d : Dt) (tm : List UInt8) (size : Int) (st : Bool) : Prop := ¬ (size < 1 ∨ 4096 < size ∨ size < tm.length) ∧ ¬ (st = true ∧ d.sd = true) ∧ ¬ (64 ≤ d.ml.length ∨ (st = true ∧ 4096 < d.ar + upT size))
theorem dreg_ok {d : Dt} {tm : List UInt8} {size : Int} {st : Bool} {n : Int} (h : RegOk d tm size st) (hf : DFree d.ml n) {gl : List Int} {vm vg : Value} {g1 : Int} (hg : GNext d.gl gl n ∧ wrap64 (gAt d.gl n + 1) = g1) : DRegP d tm size st n 0 { d with ml := d.ml ++ [⟨n, g1, size, if st = true then d.ar else 0, tm, st⟩], gl := gl, ar := if st = true then d.ar + upT size else d.ar, vm := vm, vg := vg } := by
  unfold DRegP
  rw [if_neg h.1, if_neg h.2.1, if_neg h.2.2]
  refine ⟨rfl, hf, gl, vm, vg, hg.1, ?_⟩
  rw [hg.2]
def lenAt (w : World) (a : Addr) : Nat := match w.cell? a with | some (.slice _ n _) => n | _ => 0
theorem lenAt_of {w : World} {a A : _} {n c : Nat} (h : w.cell? a = some (.slice A n c)) : lenAt w a = n := by unfold lenAt; rw [h]
theorem strB_size (l : List UInt8) : (strB l).size = l.length := by
  unfold strB
  rfl
set_option maxRecDepth 100000 in
set_option maxHeartbeats 4000000 in
theorem rreg_any {B : Nat} {w wr : World} {Y : Res} [hY : Fr Y] {r : Nat} {d : Dt} (h : Has B w wr (Dl r d Y)) (ha0 : 0 ≤ d.ar) (ha1 : d.ar ≤ 4096) (hgl : d.gl.length ≤ 65) (hml : d.ml.length ≤ 64) (tm : List UInt8) (htm : tm.length ≤ 9223372036854775807) (size : Int) (st : Bool) : Calls Tryz.prog 27 #[.pointer (some ⟨r, 0, none⟩), .string (strB tm), .int .i64 size, .bool st] wr (DRegE r d Y B w tm size st) := by
  have M0 := Lib.hid h
  obtain ⟨ml, gl, tl, sd, ar, vm, vg, vt⟩ := d
  have hsz := strB_size tm
  obtain ⟨S, hS⟩ : ∃ S, strB tm = S := ⟨_, rfl⟩
  rw [hS] at hsz ⊢
  have HS := Lib.hid hS
  have hsz2 : (S.size : Int) = tm.length := by rw [hsz]
  clear h hS
  by_cases h1 : size < 1 ∨ 4096 < size ∨ size < tm.length
  · have HE : Hid (DRegE r ⟨ml, gl, tl, sd, ar, vm, vg, vt⟩ Y B w tm size st (.returned (.tuple #[.int .i64 0, .int .i64 1])) wr) := Lib.hid ⟨_, _, _, dreg_args h1, rfl, M0.out⟩
    clear M0
    by_cases h2 : size < 1
    · go_enter Tryz.func27, Tryz.ntmps27
      go_wp2
      go_ret2
      exact HE.out
    by_cases h3 : 4096 < size
    · go_enter Tryz.func27, Tryz.ntmps27
      go_wp2
      go_ret2
      exact HE.out
    have h4 : size < (S.size : Int) := by omega
    clear h1
    go_enter Tryz.func27, Tryz.ntmps27
    go_wp2
    go_ret2
    exact HE.out
  have g1 : ¬ size < 1 := fun hh => h1 (.inl hh)
  have g2 : ¬ 4096 < size := fun hh => h1 (.inr (.inl hh))
  have g3 : ¬ size < (S.size : Int) := by omega
  have H1 := Lib.hid h1
  have s3 : wr.cell? ⟨r, 3, none⟩ = some (.bool sd) := M0.out.cellat r 3 rfl
  clear h1
  by_cases h2 : st = true ∧ sd = true
  · have HE : Hid (DRegE r ⟨ml, gl, tl, sd, ar, vm, vg, vt⟩ Y B w tm size st (.returned (.tuple #[.int .i64 0, .int .i64 172])) wr) := Lib.hid ⟨_, _, _, dreg_sealed H1.out h2, rfl, M0.out⟩
    clear M0
    obtain ⟨rfl, rfl⟩ := h2
    go_enter Tryz.func27, Tryz.ntmps27
    go_wp2
    go_ret2
    exact HE.out
  have H2 := Lib.hid h2
  obtain ⟨Am, cm, hvm, hlm, hcm, -⟩ := Has.rwsv dm_rowT.len (M0.out.pick (Mods vm ml))
  subst hvm
  unfold maxLen at hcm
  have s0 : wr.cell? ⟨r, 0, none⟩ = some (.slice Am ml.length cm) := M0.out.cellat r 0 rfl
  have s4 : wr.cell? ⟨r, 4, none⟩ = some (.int .i64 ar) := M0.out.cellat r 4 rfl
  simp only at ha0 ha1 hgl hml
  have hU0 : size ≤ upT size ∧ upT size ≤ 4096 := by unfold upT; omega
  have CU : ∀ w, Calls Tryz.prog 51 #[.int .i64 size] w fun e w' => e = .returned (.int .i64 (upT size)) ∧ w' = w := fun w => (rupT_any size (by omega) (by omega) w).mono (fun e w1 h => ⟨h.1, h.2.symm⟩)
  obtain ⟨U, hU⟩ : ∃ U, upT size = U := ⟨_, rfl⟩
  rw [hU] at hU0 CU
  have HU := Lib.hid hU
  clear hU
  obtain ⟨hU1, hU2⟩ := hU0
  by_cases h3 : 64 ≤ ml.length ∨ (st = true ∧ 4096 < ar + U)
  · have HE : Hid (∀ k, DRegE r ⟨ml, gl, tl, sd, ar, .slice Am ml.length cm, vg, vt⟩ Y B w tm size st (.returned (.tuple #[.int .i64 0, .int .i64 3])) (wr.drewN k)) := Lib.hid (fun k => ⟨_, _, _, dreg_full H1.out H2.out (by rw [HU.out]; exact h3), rfl, M0.out.stay (below_drewN (Below.refl _ _) k)⟩)
    clear M0
    by_cases h4 : 64 ≤ ml.length
    · have hd : (64 : Int) ≤ (ml.length : Int) := by omega
      clear h3 CU
      cases st with
      | true =>
        obtain rfl : sd = false := by cases sd; rfl; exact absurd ⟨rfl, rfl⟩ h2
        clear h2 h4
        go_enter Tryz.func27, Tryz.ntmps27
        go_upto_region 5 with fail
        go_quiet (fail)
        go_wp2
        go_ret2
        exact HE.out _
      | false =>
        clear h2 h4
        go_enter Tryz.func27, Tryz.ntmps27
        go_upto_region 5 with fail
        go_quiet (fail)
        go_wp2
        go_ret2
        exact HE.out _
    · obtain ⟨rfl, h5⟩ : st = true ∧ 4096 < ar + U := by rcases h3 with h | h; exact absurd h h4; exact h
      obtain rfl : sd = false := by cases sd; rfl; exact absurd ⟨rfl, rfl⟩ h2
      have hd : decide ((64 : Int) ≤ (ml.length : Int)) = false := decide_eq_false (by omega)
      have hw : IntKind.i64.wrap (ar + U) = ar + U := IntWalk.i64_in _ (by omega)
      clear h2 h3 h4
      go_enter Tryz.func27, Tryz.ntmps27
      go_upto_region 5 with fail
      go_quiet ((go_at_call 51; exact Calls.quiet_of_same (CU _)))
      clear hd
      go_wp2
      go_ret2
      exact HE.out _
  have H3 : Hid (¬ (64 ≤ ml.length ∨ (st = true ∧ 4096 < ar + upT size))) := Lib.hid (by rw [HU.out]; exact h3)
  have h4 : ¬ 64 ≤ ml.length := fun h => h3 (.inl h)
  have HCM : Hid (∀ k W, Has B w W (Dl r ⟨ml, gl, tl, sd, ar, .slice Am ml.length cm, vg, vt⟩ Y) → Calls Tryz.prog 52 #[.pointer (some ⟨r, 0, none⟩), .int .i64 k] W fun e w' => e = .returned (.int .i64 (mIdx ml k)) ∧ W = w') := Lib.hid (fun k W m => rmodule_any m k)
  have hd : decide ((64 : Int) ≤ (ml.length : Int)) = false := decide_eq_false (by omega)
  have M1 : Hid (∀ k, Has B w (wr.drewN k) (Dl r ⟨ml, gl, tl, sd, ar, .slice Am ml.length cm, vg, vt⟩ Y)) := Lib.hid (fun k => M0.out.stay (below_drewN (Below.refl _ _) k))
  clear M0
  have HOK : Hid (RegOk ⟨ml, gl, tl, sd, ar, .slice Am ml.length cm, vg, vt⟩ tm size st) := Lib.hid ⟨H1.out, H2.out, H3.out⟩
  clear H1 H2 H3
  have HML : Hid (ml.length < 64) := Lib.hid (by omega)
  have HGL : Hid (gl.length ≤ 65) := Lib.hid hgl
  clear hml hgl
  cases st with
  | true =>
    have hsd : sd = false := by cases sd; rfl; exact absurd ⟨rfl, rfl⟩ h2
    have h5 : ¬ 4096 < ar + U := fun h => h3 (.inr ⟨rfl, h⟩)
    have hw : IntKind.i64.wrap (ar + U) = ar + U := IntWalk.i64_in _ (by omega)
    rw [hsd] at s3
    clear h2 h3 h4 hsd
    go_enter Tryz.func27, Tryz.ntmps27
    go_upto_region 5 with fail
    go_quiet ((go_at_call 51; exact Calls.quiet_of_same (CU _)))
    have M2 := Lib.hid (M1.out nq)
    have HW := Lib.hid hw
    clear hd hw
    go_wp2
    obtain ⟨W, hW⟩ : ∃ W, wr.drewN nq = W := ⟨_, rfl⟩
    rw [hW] at M2 ⊢
    clear hW M1 s0 s3 s4
    go_loop [10] (fun i => ∃ k : Nat, 1 ≤ k ∧ k ≤ ml.length + 1 ∧ i = .int .i64 k ∧ Hid (∀ j : Int, 1 ≤ j → j < k → ∃ x ∈ ml, x.n = j)) (fun i => ml.length + 1 - (intOf i).toNat)
    case atStart => exact ⟨1, Nat.le_refl _, by omega, rfl, Lib.hid (fun j h1 h2 => by omega)⟩
    case round =>
      obtain ⟨k, hk1, hk2, rfl, HB⟩ := hrel
      have C1 := Lib.hid (HCM.out (k : Int) W M2.out)
      have hk3 : k ≤ 64 := by have := HML.out; omega
      by_cases hm : mIdx ml (k : Int) = -1
      · rw [hm] at C1
        have HFR : Hid (DFree ml (k : Int)) := Lib.hid ⟨by omega, HB.out, mIdx_neg hm⟩
        clear hm hk2 HB
        go_wp2_with fail
        refine (C1.out).mono ?_
        rintro e w1 ⟨rfl, rfl⟩
        clear C1 HCM
        go_wp2
        have hv : ∃ A c, vg = .slice A gl.length c := by obtain ⟨A, c, h1, -, -, -⟩ := Has.rwsv ig_rowT.len (M2.out.pick (Gens vg gl)); exact ⟨A, c, h1⟩
        obtain ⟨Ag, cg, rfl⟩ := hv
        have MS := M2
        clear M2
        go_loopw [] (fun wr => ∃ gl' N Ag cg, N ≤ 65 ∧ Hid (gl'.length = N ∧ N ≤ max gl.length (k + 1) ∧ ∀ j, gAt gl' j = gAt gl j) ∧ Hid (Has B w wr (Dl r ⟨ml, gl', tl, sd, ar, .slice Am ml.length cm, .slice Ag N cg, vt⟩ Y))) (fun wr => 66 - lenAt wr ⟨r, 1, none⟩)
        case atStart => exact ⟨gl, gl.length, Ag, cg, HGL.out, Lib.hid ⟨rfl, by omega, fun j => rfl⟩, MS⟩
        case round =>
          obtain ⟨gl', N, Ag', cg', hN65, HG, M3⟩ := hrel
          clear MS
          have s1 : wr.cell? ⟨r, 1, none⟩ = some (.slice Ag' N cg') := M3.out.cellat r 1 rfl
          have HL1 : Hid (lenAt wr ⟨r, 1, none⟩ = N) := Lib.hid (lenAt_of s1)
          by_cases hlt : N ≤ k
          · obtain ⟨v', w', hr, m⟩ := Has.append1 ig_rowT (M3.out.pick (Gens (.slice Ag' N cg') gl')) (0 : Int) #[.int .i64 0] rfl (by rw [HG.out.1]; omega) 30
            have HR := Lib.hid hr
            obtain ⟨A2, c2, hv2, -, -, -⟩ := Has.rwsv ig_rowT.len m
            have hn2 : (gl' ++ [0]).length = N + 1 := by rw [List.length_append, HG.out.1]; rfl
            rw [hn2] at hv2
            subst hv2
            have m2 := m.norm (Star (Cel r 33 (Dt.arr ⟨ml, gl', tl, sd, ar, .slice Am ml.length cm, .slice Ag' N cg', vt⟩)) (Star (Mods (.slice Am ml.length cm) ml) (Star (Gens (.slice A2 (N + 1) c2) (gl' ++ [0])) (Star (Thrs vt tl) (Star (All dtR tl) Y)))))
            have f1 : w'.frozen? ⟨r, 1, none⟩ = false := m2.liveat r 1
            have s1' : w'.cell? ⟨r, 1, none⟩ = some (.slice Ag' N cg') := m2.cellat r 1 rfl
            have M5 : Hid (Has B w (w'.setCell ⟨r, 1, none⟩ (.slice A2 (N + 1) c2)) (Dl r ⟨ml, gl' ++ [0], tl, sd, ar, .slice Am ml.length cm, .slice A2 (N + 1) c2, vt⟩ Y)) := Lib.hid (m2.cellc r 1 (.slice A2 (N + 1) c2) (Dt.arr ⟨ml, gl' ++ [0], tl, sd, ar, .slice Am ml.length cm, .slice A2 (N + 1) c2, vt⟩) rfl)
            have HL2 : Hid (lenAt (w'.setCell ⟨r, 1, none⟩ (.slice A2 (N + 1) c2)) ⟨r, 1, none⟩ = N + 1) := Lib.hid (lenAt_of (M5.out.cellat r 1 rfl))
            have HN2 := Lib.hid hn2
            clear m m2 hr hn2
            go_wp2_with (at_builtin; refine Lib.wpList_append_run _ rfl _ _ _ _ rfl _ _ rfl rfl _ _ HR.out ?_)
            go_roundw
            case rel => exact ⟨gl' ++ [0], N + 1, A2, c2, by omega, Lib.hid ⟨HN2.out, by omega, fun j => by rw [gAt_app0]; exact HG.out.2.2 j⟩, M5⟩
            case measure => rw [HL1.out, HL2.out]; omega
          · obtain ⟨A, c, hv, hlc, hcm2, hrow⟩ := Has.rwsv ig_rowT.len (M3.out.pick (Gens (.slice Ag' N cg') gl'))
            injection hv with e1 e2 e3
            subst e1 e3
            obtain ⟨x, hx⟩ : ∃ x, gl'[k]? = some x := ⟨_, List.getElem?_eq_getElem (by rw [HG.out.1]; omega)⟩
            obtain ⟨g, hA, -, hcell⟩ := hrow k x hx
            subst hA
            have c0 : wr.cell? ⟨g, k, none⟩ = some (.int .i64 x) := by have h9 := hcell 0 _ rfl; rwa [Nat.mul_one] at h9
            have fz : wr.frozen? ⟨g, k, none⟩ = false := Has.rwsLive (M3.out.pick (Gens (.slice (some ⟨g, 0, none⟩) N cg') gl')) k
            obtain ⟨g1, hg1⟩ : ∃ g1, wrap64 (x + 1) = g1 := ⟨_, rfl⟩
            have hcN : N ≤ cg' := by rw [e2]; exact hlc
            have M4 : Hid (Has B w (wr.setCell ⟨g, k, none⟩ (.int .i64 g1)) (Dl r ⟨ml, gl'.set k g1, tl, sd, ar, .slice Am ml.length cm, .slice (some ⟨g, 0, none⟩) N cg', vt⟩ Y)) := Lib.hid (by
              have h9 := (M3.out.pick (Gens (.slice (some ⟨g, 0, none⟩) N cg') gl')).rwsSet ig_rowT.len k x g1 hx 0 (by decide) (.int .i64 g1) rfl
              rw [Nat.mul_one] at h9
              exact h9.norm (Star (Cel r 33 (Dt.arr ⟨ml, gl', tl, sd, ar, .slice Am ml.length cm, .slice (some ⟨g, 0, none⟩) N cg', vt⟩)) (Star (Mods (.slice Am ml.length cm) ml) (Star (Gens (.slice (some ⟨g, 0, none⟩) N cg') (gl'.set k g1)) (Star (Thrs vt tl) (Star (All dtR tl) Y))))))
            have HGN : Hid (GNext gl (gl'.set k g1) (k : Int) ∧ wrap64 (gAt gl (k : Int) + 1) = g1) := Lib.hid (by
              have h1 : gAt gl (k : Int) = x := by rw [← HG.out.2.2, gAt_get hx]
              refine ⟨⟨by rw [List.length_set, HG.out.1, Int.toNat_natCast]; exact HG.out.2.1, fun j => ?_⟩, by rw [h1]; exact hg1⟩
              rw [gAt_set (by rw [HG.out.1]; omega), h1, hg1, HG.out.2.2])
            have c0' : (wr.setCell ⟨g, k, none⟩ (.int .i64 g1)).cell? ⟨g, k, none⟩ = some (.int .i64 g1) := by
              obtain ⟨A', c', hv', -, -, hrow'⟩ := Has.rwsv ig_rowT.len (M4.out.pick (Gens (.slice (some ⟨g, 0, none⟩) N cg') (gl'.set k g1)))
              obtain ⟨g'', hA'', -, hc''⟩ := hrow' k g1 (List.getElem?_set_self (by rw [HG.out.1]; omega))
              injection hv' with e1 e2 e3
              rw [← e1] at hA''
              cases hA''
              have h9 := hc'' 0 _ rfl
              rwa [Nat.mul_one] at h9
            have HC0 := Lib.hid c0'
            clear hrow hcell hx hlc e2 HG HL1 c0'
            go_upto_region 12 with fail
            go_upto_region 13 with fail
            clear c0 fz s1
            obtain ⟨W1, hW⟩ : ∃ W1, wr.setCell ⟨g, k, none⟩ (.int .i64 g1) = W1 := ⟨_, rfl⟩
            rw [hg1, hW] at ⊢
            rw [hW] at M4 HC0
            clear hW M3 hg1
            generalize gl'.set k g1 = gl2 at M4 HGN
            have c0 : W1.cell? ⟨g, k, none⟩ = some (.int .i64 g1) := HC0.out
            have s1 : W1.cell? ⟨r, 1, none⟩ = some (.slice (some ⟨g, 0, none⟩) N cg') := M4.out.cellat r 1 rfl
            have Na := Lib.hid (M4.out.newcel 107 #[.int .i64 0, .int .i64 0, .int .i64 0, .int .i64 0, .string ⟨#[]⟩, .bool false])
            have Nb := Lib.hid (Na.out.rowc W1.heap.size #[.int .i64 k, .int .i64 g1, .int .i64 size, .int .i64 0, .string S, .bool true])
            go_upto_region 14 with (refine wpList_store_row rfl 107 _ _ rfl W1.heap.size #[.int .i64 k, .int .i64 g1, .int .i64 size, .int .i64 0, .string S, .bool true] rfl rfl 107 #[.int .i64 0, .int .i64 0, .int .i64 0, .int .i64 0, .string ⟨#[]⟩, .bool false] (Na.out.getc W1.heap.size) (by kernel_rfl) rfl (by kernel_rfl) ?_)
            obtain ⟨W2, hW⟩ : ∃ W2, (W1.alloc (.cells #[.int .i64 0, .int .i64 0, .int .i64 0, .int .i64 0, .string ⟨#[]⟩, .bool false] 107)).setRow W1.heap.size #[.int .i64 k, .int .i64 g1, .int .i64 size, .int .i64 0, .string S, .bool true] = W2 := ⟨_, rfl⟩
            rw [hW] at Nb ⊢
            clear hW Na c0 s1 HC0
            generalize W1.heap.size = x11 at Nb ⊢
            clear M4
            have s4 : W2.cell? ⟨r, 4, none⟩ = some (.int .i64 ar) := Nb.out.cellat r 4 rfl
            have x3 : W2.cell? ⟨x11, 3, none⟩ = some (.int .i64 0) := Nb.out.cellat x11 3 rfl
            have f3 : W2.frozen? ⟨x11, 3, none⟩ = false := Nb.out.liveat x11 3
            have Nx := Lib.hid (Nb.out.cellc x11 3 (.int .i64 ar) #[.int .i64 k, .int .i64 g1, .int .i64 size, .int .i64 ar, .string S, .bool true] rfl)
            clear Nb
            go_upto_region 16 with fail
            obtain ⟨W4, hW⟩ : ∃ W4, W2.setCell ⟨x11, 3, none⟩ (.int .i64 ar) = W4 := ⟨_, rfl⟩
            rw [hW] at Nx ⊢
            clear hW s4 x3 f3
            have Ny := Lib.hid (Nx.out.stay ((Below.refl _ W4).drew))
            have Nz := Lib.hid (Ny.out.cellc r 4 (.int .i64 (ar + U)) (Dt.arr ⟨ml, gl2, tl, sd, ar + U, .slice Am ml.length cm, .slice (some ⟨g, 0, none⟩) N cg', vt⟩) rfl)
            refine wp_region_noPanic ?_
            refine wp_region_held_drew (S := fun _ : World => True) (by kernel_rfl) trivial ?_
            intro hS
            refine takeR (i := 0) (v := .pointer (some ⟨r, 0, none⟩)) 99 rfl (by kernel_rfl) (by kernel_rfl) (by kernel_rfl) (by kernel_rfl) (fun _ _ _ h => h) (yields_pure (by kernel_rfl) (fun w => by kernel_rfl)) hS ?_
            refine takeR (i := 1) (v := .pointer (some ⟨r, 0, none⟩)) 100 rfl (by kernel_rfl) (by kernel_rfl) (by kernel_rfl) (by kernel_rfl) (fun _ _ _ h => h) (yields_pure (by kernel_rfl) (fun w => by kernel_rfl)) hS ?_
            refine takeR (i := 2) (v := .pointer (some ⟨r, 4, none⟩)) 101 rfl (by kernel_rfl) (by kernel_rfl) (by kernel_rfl) (by kernel_rfl) (fun _ _ _ h => h) (yields_pure (by kernel_rfl) (fun w => by kernel_rfl)) hS ?_
            refine takeR (i := 4) (v := .int .i64 size) 103 rfl (by kernel_rfl) (by kernel_rfl) (by kernel_rfl) (by kernel_rfl) (fun _ _ _ h => h) (yields_pure (by kernel_rfl) (fun w => by kernel_rfl)) hS ?_
            refine wpAnyH_all (rs := [3, 5]) (by kernel_rfl) (by simp) ?_
            intro j hj
            obtain rfl | rfl : j = 3 ∨ j = 5 := by simpa using hj
            focus
              refine opR_run (v := .int .i64 ar) (w' := W4.drew) 102 rfl (by kernel_rfl) (by kernel_rfl) (exec_load_cell 3 (.tmp 101) (by kernel_rfl) r 4 (by kernel_rfl) (.int .i64 ar) (Ny.out.cellat r 4 rfl) _ Tryz.underlying3 rfl) ?_
              refine ⟨trivial, ?_⟩
              refine wpAnyH_all (rs := [5]) (by kernel_rfl) (by simp) ?_
              intro j hj
              obtain rfl : j = 5 := by simpa using hj
              refine opR_call 104 rfl rfl (by kernel_rfl) _ _ _ rfl _ (by kernel_rfl) ((CU _).mono ?_)
              rintro e X2 ⟨rfl, rfl⟩
              refine ⟨_, rfl, trivial, ?_⟩
              refine takeR (i := 6) (v := .int .i64 (ar + U)) 105 rfl (by kernel_rfl) (by kernel_rfl) (by kernel_rfl) (by kernel_rfl) (fun _ _ _ h => h) (yields_pure (by kernel_rfl) (fun w => (show _ = Result.ok (Next.value (.int .i64 (IntKind.i64.wrap (ar + U)))) w by kernel_rfl).trans (by rw [HW.out]))) hS ?_
              refine takeR (i := 7) (v := .pointer (some ⟨r, 0, none⟩)) 106 rfl (by kernel_rfl) (by kernel_rfl) (by kernel_rfl) (by kernel_rfl) (fun _ _ _ h => h) (yields_pure (by kernel_rfl) (fun w => by kernel_rfl)) hS ?_
              refine takeR (i := 8) (v := .pointer (some ⟨r, 4, none⟩)) 107 rfl (by kernel_rfl) (by kernel_rfl) (by kernel_rfl) (by kernel_rfl) (fun _ _ _ h => h) (yields_pure (by kernel_rfl) (fun w => by kernel_rfl)) hS ?_
              refine wpAnyH_all (rs := [9]) (by kernel_rfl) (by simp) ?_
              intro j hj
              obtain rfl : j = 9 := by simpa using hj
              refine opR_cell rfl (by kernel_rfl) (by kernel_rfl) 3 (.tmp 107) (.tmp 105) (by kernel_rfl) r 4 (ar + U) (.int .i64 ar) (by kernel_rfl) (by kernel_rfl) (Ny.out.cellat r 4 rfl) (Ny.out.liveat r 4) Tryz.underlying3 (by kernel_rfl) ?_
              refine ⟨trivial, ?_⟩
              refine wpAnyH_done (by kernel_rfl) ?_ _
              refine NoPanic.normal ?_
              simp only [Act.put, List.setIfInBounds_toArray, List.set_cons_succ, List.set_cons_zero]
              obtain ⟨W5, hW⟩ : ∃ W5, W4.drew.setCell ⟨r, 4, none⟩ (.int .i64 (ar + U)) = W5 := ⟨_, rfl⟩
              rw [hW] at Nz ⊢
              clear hW Nx Ny hS
              go_upto_region 17 with fail
              have Nn := Nz
              clear Nz
              have M9 := Lib.hid (Nn.out.stay ((Below.refl _ W5).drew))
              have hS0 : (fun X : World => Blk X x11 107 #[.int .i64 k, .int .i64 g1, .int .i64 size, .int .i64 ar, .string S, .bool true]) W5.drew := M9.out.getc x11
              obtain ⟨v', w', hr, m⟩ := Has.append1 dm_rowT (M9.out.pick (Mods (.slice Am ml.length cm) ml)) ⟨(k : Int), g1, size, ar, tm, true⟩ #[.int .i64 k, .int .i64 g1, .int .i64 size, .int .i64 ar, .string S, .bool true] (by show _ = dmC _; unfold dmC; rw [HS.out]) (by have := HML.out; omega) 29
              obtain ⟨A2, c2, hv2, -, -, -⟩ := Has.rwsv dm_rowT.len m
              obtain ⟨n2, hn2⟩ : ∃ n2, (ml ++ [(⟨(k : Int), g1, size, ar, tm, true⟩ : DM)]).length = n2 := ⟨_, rfl⟩
              rw [hn2] at hv2
              subst hv2
              have HN2 := Lib.hid hn2
              have HR := Lib.hid hr
              have M10 := Lib.hid m
              clear hr m hn2
              have HF : Hid (DRegE r ⟨ml, gl, tl, sd, ar, .slice Am ml.length cm, .slice Ag gl.length cg, vt⟩ Y B w tm size true (.returned (.tuple #[.int .i64 k, .int .i64 0])) (w'.setCell ⟨r, 0, none⟩ (.slice A2 n2 c2))) := Lib.hid ⟨_, _, _, dreg_ok HOK.out HFR.out HGN.out (vm := .slice A2 n2 c2) (vg := .slice (some ⟨g, 0, none⟩) N cg'), rfl, by
                have h9 := M10.out.cellc r 0 (.slice A2 n2 c2) (Dt.arr ⟨ml ++ [⟨(k : Int), g1, size, ar, tm, true⟩], gl2, tl, sd, ar + U, .slice A2 n2 c2, .slice (some ⟨g, 0, none⟩) N cg', vt⟩) rfl
                rw [← HU.out] at h9
                exact h9.norm (Star (Cel r 33 (Dt.arr ⟨ml ++ [⟨(k : Int), g1, size, ar, tm, true⟩], gl2, tl, sd, ar + upT size, .slice A2 n2 c2, .slice (some ⟨g, 0, none⟩) N cg', vt⟩)) (Star (Mods (.slice A2 n2 c2) (ml ++ [⟨(k : Int), g1, size, ar, tm, true⟩])) (Star (Gens (.slice (some ⟨g, 0, none⟩) N cg') gl2) (Star (Thrs vt tl) (Star (All dtR tl) Y)))))⟩
              refine wp_region_noPanic ?_
              refine wp_region_held_drew (S := fun X : World => Blk X x11 107 #[.int .i64 k, .int .i64 g1, .int .i64 size, .int .i64 ar, .string S, .bool true]) (by kernel_rfl) hS0 ?_
              clear hS0
              intro hS
              refine takeR (i := 0) (v := .pointer (some ⟨r, 0, none⟩)) 108 rfl (by kernel_rfl) (by kernel_rfl) (by kernel_rfl) (by kernel_rfl) (fun _ _ _ h => h) (yields_pure (by kernel_rfl) (fun w => by kernel_rfl)) hS ?_
              refine takeR (i := 1) (v := .pointer (some ⟨r, 0, none⟩)) 109 rfl (by kernel_rfl) (by kernel_rfl) (by kernel_rfl) (by kernel_rfl) (fun _ _ _ h => h) (yields_pure (by kernel_rfl) (fun w => by kernel_rfl)) hS ?_
              refine takeR (i := 2) (v := .pointer (some ⟨r, 0, none⟩)) 110 rfl (by kernel_rfl) (by kernel_rfl) (by kernel_rfl) (by kernel_rfl) (fun _ _ _ h => h) (yields_pure (by kernel_rfl) (fun w => by kernel_rfl)) hS ?_
              refine takeR (i := 3) (v := .pointer (some ⟨r, 0, none⟩)) 111 rfl (by kernel_rfl) (by kernel_rfl) (by kernel_rfl) (by kernel_rfl) (fun _ _ _ h => h) (yields_pure (by kernel_rfl) (fun w => by kernel_rfl)) hS ?_
              refine takeR (i := 5) 113 rfl (by kernel_rfl) (by kernel_rfl) (by kernel_rfl) (by kernel_rfl) (fun _ _ _ h => h) (yields_load_row (by kernel_rfl) 107 _ rfl x11 (by kernel_rfl) 107 #[.int .i64 k, .int .i64 g1, .int .i64 size, .int .i64 ar, .string S, .bool true] _ (fun X h => h) Tryz.underlying107 rfl (by kernel_rfl)) hS ?_
              have M9a := Lib.hid (M9.out.stay ((Below.refl _ W5.drew).alloc (Nat.le_refl _) (.cells #[.int .i64 k, .int .i64 g1, .int .i64 size, .int .i64 ar, .string S, .bool true] 107)))
              refine wpAnyH_all (rs := [4, 6]) (by kernel_rfl) (by simp) ?_
              intro j hj
              obtain rfl | rfl : j = 4 ∨ j = 6 := by simpa using hj
              focus
                refine opR_run (v := .slice Am ml.length cm) (w' := W5.drew) 112 rfl (by kernel_rfl) (by kernel_rfl) (exec_load_cell 29 (.tmp 111) (by kernel_rfl) r 0 (by kernel_rfl) (.slice Am ml.length cm) (M9.out.cellat r 0 rfl) _ Tryz.underlying29 rfl) ?_
                refine ⟨hS, ?_⟩
                refine wpAnyH_all (rs := [6]) (by kernel_rfl) (by simp) ?_
                intro j hj
                obtain rfl : j = 6 := by simpa using hj
                refine opR_run (v := .slice (some ⟨W5.drew.heap.size, 0, none⟩) 1 1) (w' := W5.drew.alloc (.cells #[.int .i64 k, .int .i64 g1, .int .i64 size, .int .i64 ar, .string S, .bool true] 107)) 114 rfl (by kernel_rfl) (by kernel_rfl) (by kernel_rfl) ?_
                refine ⟨M9a.out.getc x11, ?_⟩
                refine wpAnyH_all (rs := [7]) (by kernel_rfl) (by simp) ?_
                intro j hj
                obtain rfl : j = 7 := by simpa using hj
                refine opR_run (v := .slice A2 n2 c2) (w' := w') 115 rfl (by kernel_rfl) (by kernel_rfl) (exec_append_run (.tmp 112) (.tmp 114) 29 29 (by kernel_rfl) (.slice Am ml.length cm) (.slice (some ⟨W5.drew.heap.size, 0, none⟩) 1 1) (by kernel_rfl) (by kernel_rfl) HR.out) ?_
                have hS2 : Blk w' x11 107 #[.int .i64 k, .int .i64 g1, .int .i64 size, .int .i64 ar, .string S, .bool true] := M10.out.getc x11
                refine ⟨hS2, ?_⟩
                refine takeR (i := 8) (v := .pointer (some ⟨r, 0, none⟩)) 116 rfl (by kernel_rfl) (by kernel_rfl) (by kernel_rfl) (by kernel_rfl) (fun _ _ _ h => h) (yields_pure (by kernel_rfl) (fun w => by kernel_rfl)) hS2 ?_
                refine takeR (i := 9) (v := .pointer (some ⟨r, 0, none⟩)) 117 rfl (by kernel_rfl) (by kernel_rfl) (by kernel_rfl) (by kernel_rfl) (fun _ _ _ h => h) (yields_pure (by kernel_rfl) (fun w => by kernel_rfl)) hS2 ?_
                refine wpAnyH_all (rs := [10]) (by kernel_rfl) (by simp) ?_
                intro j hj
                obtain rfl : j = 10 := by simpa using hj
                refine opR_slice rfl (by kernel_rfl) (by kernel_rfl) 29 (.tmp 117) (.tmp 115) (by kernel_rfl) r 0 A2 n2 c2 (.slice Am ml.length cm) (by kernel_rfl) (by kernel_rfl) (M10.out.cellat r 0 rfl) (M10.out.liveat r 0) (by kernel_rfl) ?_
                have M11 := Lib.hid (M10.out.cellc r 0 (.slice A2 n2 c2) (Dt.arr ⟨ml, gl2, tl, sd, ar + U, .slice A2 n2 c2, .slice (some ⟨g, 0, none⟩) N cg', vt⟩) rfl)
                refine ⟨M11.out.getc x11, ?_⟩
                refine wpAnyH_done (by kernel_rfl) ?_ _
                refine NoPanic.normal ?_
                simp only [Act.put, List.setIfInBounds_toArray, List.set_cons_succ, List.set_cons_zero]
                clear M11 M10 M9 M9a hS hS2 Nn
                go_wp2_with fail
                go_ret2
                exact HF.out
              focus
                refine opR_run (v := .slice (some ⟨W5.drew.heap.size, 0, none⟩) 1 1) (w' := W5.drew.alloc (.cells #[.int .i64 k, .int .i64 g1, .int .i64 size, .int .i64 ar, .string S, .bool true] 107)) 114 rfl (by kernel_rfl) (by kernel_rfl) (by kernel_rfl) ?_
                refine ⟨M9a.out.getc x11, ?_⟩
                refine wpAnyH_all (rs := [4]) (by kernel_rfl) (by simp) ?_
                intro j hj
                obtain rfl : j = 4 := by simpa using hj
                refine opR_run (v := .slice Am ml.length cm) (w' := W5.drew.alloc (.cells #[.int .i64 k, .int .i64 g1, .int .i64 size, .int .i64 ar, .string S, .bool true] 107)) 112 rfl (by kernel_rfl) (by kernel_rfl) (exec_load_cell 29 (.tmp 111) (by kernel_rfl) r 0 (by kernel_rfl) (.slice Am ml.length cm) (M9a.out.cellat r 0 rfl) _ Tryz.underlying29 rfl) ?_
                refine ⟨M9a.out.getc x11, ?_⟩
                refine wpAnyH_all (rs := [7]) (by kernel_rfl) (by simp) ?_
                intro j hj
                obtain rfl : j = 7 := by simpa using hj
                refine opR_run (v := .slice A2 n2 c2) (w' := w') 115 rfl (by kernel_rfl) (by kernel_rfl) (exec_append_run (.tmp 112) (.tmp 114) 29 29 (by kernel_rfl) (.slice Am ml.length cm) (.slice (some ⟨W5.drew.heap.size, 0, none⟩) 1 1) (by kernel_rfl) (by kernel_rfl) HR.out) ?_
                have hS2 : Blk w' x11 107 #[.int .i64 k, .int .i64 g1, .int .i64 size, .int .i64 ar, .string S, .bool true] := M10.out.getc x11
                refine ⟨hS2, ?_⟩
                refine takeR (i := 8) (v := .pointer (some ⟨r, 0, none⟩)) 116 rfl (by kernel_rfl) (by kernel_rfl) (by kernel_rfl) (by kernel_rfl) (fun _ _ _ h => h) (yields_pure (by kernel_rfl) (fun w => by kernel_rfl)) hS2 ?_
                refine takeR (i := 9) (v := .pointer (some ⟨r, 0, none⟩)) 117 rfl (by kernel_rfl) (by kernel_rfl) (by kernel_rfl) (by kernel_rfl) (fun _ _ _ h => h) (yields_pure (by kernel_rfl) (fun w => by kernel_rfl)) hS2 ?_
                refine wpAnyH_all (rs := [10]) (by kernel_rfl) (by simp) ?_
                intro j hj
                obtain rfl : j = 10 := by simpa using hj
                refine opR_slice rfl (by kernel_rfl) (by kernel_rfl) 29 (.tmp 117) (.tmp 115) (by kernel_rfl) r 0 A2 n2 c2 (.slice Am ml.length cm) (by kernel_rfl) (by kernel_rfl) (M10.out.cellat r 0 rfl) (M10.out.liveat r 0) (by kernel_rfl) ?_
                have M11 := Lib.hid (M10.out.cellc r 0 (.slice A2 n2 c2) (Dt.arr ⟨ml, gl2, tl, sd, ar + U, .slice A2 n2 c2, .slice (some ⟨g, 0, none⟩) N cg', vt⟩) rfl)
                refine ⟨M11.out.getc x11, ?_⟩
                refine wpAnyH_done (by kernel_rfl) ?_ _
                refine NoPanic.normal ?_
                simp only [Act.put, List.setIfInBounds_toArray, List.set_cons_succ, List.set_cons_zero]
                clear M11 M10 M9 M9a hS hS2 Nn
                go_wp2_with fail
                go_ret2
                exact HF.out
            focus
              refine opR_call 104 rfl rfl (by kernel_rfl) _ _ _ rfl _ (by kernel_rfl) ((CU _).mono ?_)
              rintro e X2 ⟨rfl, rfl⟩
              refine ⟨_, rfl, trivial, ?_⟩
              refine wpAnyH_all (rs := [3]) (by kernel_rfl) (by simp) ?_
              intro j hj
              obtain rfl : j = 3 := by simpa using hj
              refine opR_run (v := .int .i64 ar) (w' := W4.drew) 102 rfl (by kernel_rfl) (by kernel_rfl) (exec_load_cell 3 (.tmp 101) (by kernel_rfl) r 4 (by kernel_rfl) (.int .i64 ar) (Ny.out.cellat r 4 rfl) _ Tryz.underlying3 rfl) ?_
              refine ⟨trivial, ?_⟩
              refine takeR (i := 6) (v := .int .i64 (ar + U)) 105 rfl (by kernel_rfl) (by kernel_rfl) (by kernel_rfl) (by kernel_rfl) (fun _ _ _ h => h) (yields_pure (by kernel_rfl) (fun w => (show _ = Result.ok (Next.value (.int .i64 (IntKind.i64.wrap (ar + U)))) w by kernel_rfl).trans (by rw [HW.out]))) hS ?_
              refine takeR (i := 7) (v := .pointer (some ⟨r, 0, none⟩)) 106 rfl (by kernel_rfl) (by kernel_rfl) (by kernel_rfl) (by kernel_rfl) (fun _ _ _ h => h) (yields_pure (by kernel_rfl) (fun w => by kernel_rfl)) hS ?_
              refine takeR (i := 8) (v := .pointer (some ⟨r, 4, none⟩)) 107 rfl (by kernel_rfl) (by kernel_rfl) (by kernel_rfl) (by kernel_rfl) (fun _ _ _ h => h) (yields_pure (by kernel_rfl) (fun w => by kernel_rfl)) hS ?_
              refine wpAnyH_all (rs := [9]) (by kernel_rfl) (by simp) ?_
              intro j hj
              obtain rfl : j = 9 := by simpa using hj
              refine opR_cell rfl (by kernel_rfl) (by kernel_rfl) 3 (.tmp 107) (.tmp 105) (by kernel_rfl) r 4 (ar + U) (.int .i64 ar) (by kernel_rfl) (by kernel_rfl) (Ny.out.cellat r 4 rfl) (Ny.out.liveat r 4) Tryz.underlying3 (by kernel_rfl) ?_
              refine ⟨trivial, ?_⟩
              refine wpAnyH_done (by kernel_rfl) ?_ _
              refine NoPanic.normal ?_
              simp only [Act.put, List.setIfInBounds_toArray, List.set_cons_succ, List.set_cons_zero]
              obtain ⟨W5, hW⟩ : ∃ W5, W4.drew.setCell ⟨r, 4, none⟩ (.int .i64 (ar + U)) = W5 := ⟨_, rfl⟩
              rw [hW] at Nz ⊢
              clear hW Nx Ny hS
              go_upto_region 17 with fail
              have Nn := Nz
              clear Nz
              have M9 := Lib.hid (Nn.out.stay ((Below.refl _ W5).drew))
              have hS0 : (fun X : World => Blk X x11 107 #[.int .i64 k, .int .i64 g1, .int .i64 size, .int .i64 ar, .string S, .bool true]) W5.drew := M9.out.getc x11
              obtain ⟨v', w', hr, m⟩ := Has.append1 dm_rowT (M9.out.pick (Mods (.slice Am ml.length cm) ml)) ⟨(k : Int), g1, size, ar, tm, true⟩ #[.int .i64 k, .int .i64 g1, .int .i64 size, .int .i64 ar, .string S, .bool true] (by show _ = dmC _; unfold dmC; rw [HS.out]) (by have := HML.out; omega) 29
              obtain ⟨A2, c2, hv2, -, -, -⟩ := Has.rwsv dm_rowT.len m
              obtain ⟨n2, hn2⟩ : ∃ n2, (ml ++ [(⟨(k : Int), g1, size, ar, tm, true⟩ : DM)]).length = n2 := ⟨_, rfl⟩
              rw [hn2] at hv2
              subst hv2
              have HN2 := Lib.hid hn2
              have HR := Lib.hid hr
              have M10 := Lib.hid m
              clear hr m hn2
              have HF : Hid (DRegE r ⟨ml, gl, tl, sd, ar, .slice Am ml.length cm, .slice Ag gl.length cg, vt⟩ Y B w tm size true (.returned (.tuple #[.int .i64 k, .int .i64 0])) (w'.setCell ⟨r, 0, none⟩ (.slice A2 n2 c2))) := Lib.hid ⟨_, _, _, dreg_ok HOK.out HFR.out HGN.out (vm := .slice A2 n2 c2) (vg := .slice (some ⟨g, 0, none⟩) N cg'), rfl, by
                have h9 := M10.out.cellc r 0 (.slice A2 n2 c2) (Dt.arr ⟨ml ++ [⟨(k : Int), g1, size, ar, tm, true⟩], gl2, tl, sd, ar + U, .slice A2 n2 c2, .slice (some ⟨g, 0, none⟩) N cg', vt⟩) rfl
                rw [← HU.out] at h9
                exact h9.norm (Star (Cel r 33 (Dt.arr ⟨ml ++ [⟨(k : Int), g1, size, ar, tm, true⟩], gl2, tl, sd, ar + upT size, .slice A2 n2 c2, .slice (some ⟨g, 0, none⟩) N cg', vt⟩)) (Star (Mods (.slice A2 n2 c2) (ml ++ [⟨(k : Int), g1, size, ar, tm, true⟩])) (Star (Gens (.slice (some ⟨g, 0, none⟩) N cg') gl2) (Star (Thrs vt tl) (Star (All dtR tl) Y)))))⟩
              refine wp_region_noPanic ?_
              refine wp_region_held_drew (S := fun X : World => Blk X x11 107 #[.int .i64 k, .int .i64 g1, .int .i64 size, .int .i64 ar, .string S, .bool true]) (by kernel_rfl) hS0 ?_
              clear hS0
              intro hS
              refine takeR (i := 0) (v := .pointer (some ⟨r, 0, none⟩)) 108 rfl (by kernel_rfl) (by kernel_rfl) (by kernel_rfl) (by kernel_rfl) (fun _ _ _ h => h) (yields_pure (by kernel_rfl) (fun w => by kernel_rfl)) hS ?_
              refine takeR (i := 1) (v := .pointer (some ⟨r, 0, none⟩)) 109 rfl (by kernel_rfl) (by kernel_rfl) (by kernel_rfl) (by kernel_rfl) (fun _ _ _ h => h) (yields_pure (by kernel_rfl) (fun w => by kernel_rfl)) hS ?_
              refine takeR (i := 2) (v := .pointer (some ⟨r, 0, none⟩)) 110 rfl (by kernel_rfl) (by kernel_rfl) (by kernel_rfl) (by kernel_rfl) (fun _ _ _ h => h) (yields_pure (by kernel_rfl) (fun w => by kernel_rfl)) hS ?_
              refine takeR (i := 3) (v := .pointer (some ⟨r, 0, none⟩)) 111 rfl (by kernel_rfl) (by kernel_rfl) (by kernel_rfl) (by kernel_rfl) (fun _ _ _ h => h) (yields_pure (by kernel_rfl) (fun w => by kernel_rfl)) hS ?_
              refine takeR (i := 5) 113 rfl (by kernel_rfl) (by kernel_rfl) (by kernel_rfl) (by kernel_rfl) (fun _ _ _ h => h) (yields_load_row (by kernel_rfl) 107 _ rfl x11 (by kernel_rfl) 107 #[.int .i64 k, .int .i64 g1, .int .i64 size, .int .i64 ar, .string S, .bool true] _ (fun X h => h) Tryz.underlying107 rfl (by kernel_rfl)) hS ?_
              have M9a := Lib.hid (M9.out.stay ((Below.refl _ W5.drew).alloc (Nat.le_refl _) (.cells #[.int .i64 k, .int .i64 g1, .int .i64 size, .int .i64 ar, .string S, .bool true] 107)))
              refine wpAnyH_all (rs := [4, 6]) (by kernel_rfl) (by simp) ?_
              intro j hj
              obtain rfl | rfl : j = 4 ∨ j = 6 := by simpa using hj
              focus
                refine opR_run (v := .slice Am ml.length cm) (w' := W5.drew) 112 rfl (by kernel_rfl) (by kernel_rfl) (exec_load_cell 29 (.tmp 111) (by kernel_rfl) r 0 (by kernel_rfl) (.slice Am ml.length cm) (M9.out.cellat r 0 rfl) _ Tryz.underlying29 rfl) ?_
                refine ⟨hS, ?_⟩
                refine wpAnyH_all (rs := [6]) (by kernel_rfl) (by simp) ?_
                intro j hj
                obtain rfl : j = 6 := by simpa using hj
                refine opR_run (v := .slice (some ⟨W5.drew.heap.size, 0, none⟩) 1 1) (w' := W5.drew.alloc (.cells #[.int .i64 k, .int .i64 g1, .int .i64 size, .int .i64 ar, .string S, .bool true] 107)) 114 rfl (by kernel_rfl) (by kernel_rfl) (by kernel_rfl) ?_
                refine ⟨M9a.out.getc x11, ?_⟩
                refine wpAnyH_all (rs := [7]) (by kernel_rfl) (by simp) ?_
                intro j hj
                obtain rfl : j = 7 := by simpa using hj
                refine opR_run (v := .slice A2 n2 c2) (w' := w') 115 rfl (by kernel_rfl) (by kernel_rfl) (exec_append_run (.tmp 112) (.tmp 114) 29 29 (by kernel_rfl) (.slice Am ml.length cm) (.slice (some ⟨W5.drew.heap.size, 0, none⟩) 1 1) (by kernel_rfl) (by kernel_rfl) HR.out) ?_
                have hS2 : Blk w' x11 107 #[.int .i64 k, .int .i64 g1, .int .i64 size, .int .i64 ar, .string S, .bool true] := M10.out.getc x11
                refine ⟨hS2, ?_⟩
                refine takeR (i := 8) (v := .pointer (some ⟨r, 0, none⟩)) 116 rfl (by kernel_rfl) (by kernel_rfl) (by kernel_rfl) (by kernel_rfl) (fun _ _ _ h => h) (yields_pure (by kernel_rfl) (fun w => by kernel_rfl)) hS2 ?_
                refine takeR (i := 9) (v := .pointer (some ⟨r, 0, none⟩)) 117 rfl (by kernel_rfl) (by kernel_rfl) (by kernel_rfl) (by kernel_rfl) (fun _ _ _ h => h) (yields_pure (by kernel_rfl) (fun w => by kernel_rfl)) hS2 ?_
                refine wpAnyH_all (rs := [10]) (by kernel_rfl) (by simp) ?_
                intro j hj
                obtain rfl : j = 10 := by simpa using hj
                refine opR_slice rfl (by kernel_rfl) (by kernel_rfl) 29 (.tmp 117) (.tmp 115) (by kernel_rfl) r 0 A2 n2 c2 (.slice Am ml.length cm) (by kernel_rfl) (by kernel_rfl) (M10.out.cellat r 0 rfl) (M10.out.liveat r 0) (by kernel_rfl) ?_
                have M11 := Lib.hid (M10.out.cellc r 0 (.slice A2 n2 c2) (Dt.arr ⟨ml, gl2, tl, sd, ar + U, .slice A2 n2 c2, .slice (some ⟨g, 0, none⟩) N cg', vt⟩) rfl)
                refine ⟨M11.out.getc x11, ?_⟩
                refine wpAnyH_done (by kernel_rfl) ?_ _
                refine NoPanic.normal ?_
                simp only [Act.put, List.setIfInBounds_toArray, List.set_cons_succ, List.set_cons_zero]
                clear M11 M10 M9 M9a hS hS2 Nn
                go_wp2_with fail
                go_ret2
                exact HF.out
              focus
                refine opR_run (v := .slice (some ⟨W5.drew.heap.size, 0, none⟩) 1 1) (w' := W5.drew.alloc (.cells #[.int .i64 k, .int .i64 g1, .int .i64 size, .int .i64 ar, .string S, .bool true] 107)) 114 rfl (by kernel_rfl) (by kernel_rfl) (by kernel_rfl) ?_
                refine ⟨M9a.out.getc x11, ?_⟩
                refine wpAnyH_all (rs := [4]) (by kernel_rfl) (by simp) ?_
                intro j hj
                obtain rfl : j = 4 := by simpa using hj
                refine opR_run (v := .slice Am ml.length cm) (w' := W5.drew.alloc (.cells #[.int .i64 k, .int .i64 g1, .int .i64 size, .int .i64 ar, .string S, .bool true] 107)) 112 rfl (by kernel_rfl) (by kernel_rfl) (exec_load_cell 29 (.tmp 111) (by kernel_rfl) r 0 (by kernel_rfl) (.slice Am ml.length cm) (M9a.out.cellat r 0 rfl) _ Tryz.underlying29 rfl) ?_
                refine ⟨M9a.out.getc x11, ?_⟩
                refine wpAnyH_all (rs := [7]) (by kernel_rfl) (by simp) ?_
                intro j hj
                obtain rfl : j = 7 := by simpa using hj
                refine opR_run (v := .slice A2 n2 c2) (w' := w') 115 rfl (by kernel_rfl) (by kernel_rfl) (exec_append_run (.tmp 112) (.tmp 114) 29 29 (by kernel_rfl) (.slice Am ml.length cm) (.slice (some ⟨W5.drew.heap.size, 0, none⟩) 1 1) (by kernel_rfl) (by kernel_rfl) HR.out) ?_
                have hS2 : Blk w' x11 107 #[.int .i64 k, .int .i64 g1, .int .i64 size, .int .i64 ar, .string S, .bool true] := M10.out.getc x11
                refine ⟨hS2, ?_⟩
                refine takeR (i := 8) (v := .pointer (some ⟨r, 0, none⟩)) 116 rfl (by kernel_rfl) (by kernel_rfl) (by kernel_rfl) (by kernel_rfl) (fun _ _ _ h => h) (yields_pure (by kernel_rfl) (fun w => by kernel_rfl)) hS2 ?_
                refine takeR (i := 9) (v := .pointer (some ⟨r, 0, none⟩)) 117 rfl (by kernel_rfl) (by kernel_rfl) (by kernel_rfl) (by kernel_rfl) (fun _ _ _ h => h) (yields_pure (by kernel_rfl) (fun w => by kernel_rfl)) hS2 ?_
                refine wpAnyH_all (rs := [10]) (by kernel_rfl) (by simp) ?_
                intro j hj
                obtain rfl : j = 10 := by simpa using hj
                refine opR_slice rfl (by kernel_rfl) (by kernel_rfl) 29 (.tmp 117) (.tmp 115) (by kernel_rfl) r 0 A2 n2 c2 (.slice Am ml.length cm) (by kernel_rfl) (by kernel_rfl) (M10.out.cellat r 0 rfl) (M10.out.liveat r 0) (by kernel_rfl) ?_
                have M11 := Lib.hid (M10.out.cellc r 0 (.slice A2 n2 c2) (Dt.arr ⟨ml, gl2, tl, sd, ar + U, .slice A2 n2 c2, .slice (some ⟨g, 0, none⟩) N cg', vt⟩) rfl)
                refine ⟨M11.out.getc x11, ?_⟩
                refine wpAnyH_done (by kernel_rfl) ?_ _
                refine NoPanic.normal ?_
                simp only [Act.put, List.setIfInBounds_toArray, List.set_cons_succ, List.set_cons_zero]
                clear M11 M10 M9 M9a hS hS2 Nn
                go_wp2_with fail
                go_ret2
                exact HF.out
      · obtain ⟨hp, x, hx1, hx2⟩ := mIdx_pos hm
        generalize mIdx ml (k : Int) = z at hp C1
        have HB2 : Hid (∀ j : Int, 1 ≤ j → j < ((k + 1 : Nat) : Int) → ∃ x ∈ ml, x.n = j) := Lib.hid (fun j h1 h2 => by
          by_cases h : j = k
          · subst h
            exact ⟨x, hx1, hx2⟩
          · exact HB.out j h1 (by omega))
        have hlen := dfree_len (l := ml) (n := ((k + 1 : Nat) : Int)) (by omega) HB2.out
        clear hm hx1 hx2 HB
        go_wp2_with fail
        refine (C1.out).mono ?_
        rintro e w1 ⟨rfl, rfl⟩
        go_wp2
        go_round
        case rel => exact ⟨k + 1, by omega, by omega, by go_num, HB2⟩
        case measure => simp [intOf]; omega
  | false =>
    clear h2 h3 h4
    go_enter Tryz.func27, Tryz.ntmps27
    go_upto_region 5 with fail
    go_quiet (fail)
    have M2 := Lib.hid (M1.out nq)
    clear hd
    go_wp2
    obtain ⟨W, hW⟩ : ∃ W, wr.drewN nq = W := ⟨_, rfl⟩
    rw [hW] at M2 ⊢
    clear hW M1 s0 s3 s4
    go_loop [10] (fun i => ∃ k : Nat, 1 ≤ k ∧ k ≤ ml.length + 1 ∧ i = .int .i64 k ∧ Hid (∀ j : Int, 1 ≤ j → j < k → ∃ x ∈ ml, x.n = j)) (fun i => ml.length + 1 - (intOf i).toNat)
    case atStart => exact ⟨1, Nat.le_refl _, by omega, rfl, Lib.hid (fun j h1 h2 => by omega)⟩
    case round =>
      obtain ⟨k, hk1, hk2, rfl, HB⟩ := hrel
      have C1 := Lib.hid (HCM.out (k : Int) W M2.out)
      have hk3 : k ≤ 64 := by have := HML.out; omega
      by_cases hm : mIdx ml (k : Int) = -1
      · rw [hm] at C1
        have HFR : Hid (DFree ml (k : Int)) := Lib.hid ⟨by omega, HB.out, mIdx_neg hm⟩
        clear hm hk2 HB
        go_wp2_with fail
        refine (C1.out).mono ?_
        rintro e w1 ⟨rfl, rfl⟩
        clear C1 HCM
        go_wp2
        have hv : ∃ A c, vg = .slice A gl.length c := by obtain ⟨A, c, h1, -, -, -⟩ := Has.rwsv ig_rowT.len (M2.out.pick (Gens vg gl)); exact ⟨A, c, h1⟩
        obtain ⟨Ag, cg, rfl⟩ := hv
        have MS := M2
        clear M2
        go_loopw [] (fun wr => ∃ gl' N Ag cg, N ≤ 65 ∧ Hid (gl'.length = N ∧ N ≤ max gl.length (k + 1) ∧ ∀ j, gAt gl' j = gAt gl j) ∧ Hid (Has B w wr (Dl r ⟨ml, gl', tl, sd, ar, .slice Am ml.length cm, .slice Ag N cg, vt⟩ Y))) (fun wr => 66 - lenAt wr ⟨r, 1, none⟩)
        case atStart => exact ⟨gl, gl.length, Ag, cg, HGL.out, Lib.hid ⟨rfl, by omega, fun j => rfl⟩, MS⟩
        case round =>
          obtain ⟨gl', N, Ag', cg', hN65, HG, M3⟩ := hrel
          clear MS
          have s1 : wr.cell? ⟨r, 1, none⟩ = some (.slice Ag' N cg') := M3.out.cellat r 1 rfl
          have HL1 : Hid (lenAt wr ⟨r, 1, none⟩ = N) := Lib.hid (lenAt_of s1)
          by_cases hlt : N ≤ k
          · obtain ⟨v', w', hr, m⟩ := Has.append1 ig_rowT (M3.out.pick (Gens (.slice Ag' N cg') gl')) (0 : Int) #[.int .i64 0] rfl (by rw [HG.out.1]; omega) 30
            have HR := Lib.hid hr
            obtain ⟨A2, c2, hv2, -, -, -⟩ := Has.rwsv ig_rowT.len m
            have hn2 : (gl' ++ [0]).length = N + 1 := by rw [List.length_append, HG.out.1]; rfl
            rw [hn2] at hv2
            subst hv2
            have m2 := m.norm (Star (Cel r 33 (Dt.arr ⟨ml, gl', tl, sd, ar, .slice Am ml.length cm, .slice Ag' N cg', vt⟩)) (Star (Mods (.slice Am ml.length cm) ml) (Star (Gens (.slice A2 (N + 1) c2) (gl' ++ [0])) (Star (Thrs vt tl) (Star (All dtR tl) Y)))))
            have f1 : w'.frozen? ⟨r, 1, none⟩ = false := m2.liveat r 1
            have s1' : w'.cell? ⟨r, 1, none⟩ = some (.slice Ag' N cg') := m2.cellat r 1 rfl
            have M5 : Hid (Has B w (w'.setCell ⟨r, 1, none⟩ (.slice A2 (N + 1) c2)) (Dl r ⟨ml, gl' ++ [0], tl, sd, ar, .slice Am ml.length cm, .slice A2 (N + 1) c2, vt⟩ Y)) := Lib.hid (m2.cellc r 1 (.slice A2 (N + 1) c2) (Dt.arr ⟨ml, gl' ++ [0], tl, sd, ar, .slice Am ml.length cm, .slice A2 (N + 1) c2, vt⟩) rfl)
            have HL2 : Hid (lenAt (w'.setCell ⟨r, 1, none⟩ (.slice A2 (N + 1) c2)) ⟨r, 1, none⟩ = N + 1) := Lib.hid (lenAt_of (M5.out.cellat r 1 rfl))
            have HN2 := Lib.hid hn2
            clear m m2 hr hn2
            go_wp2_with (at_builtin; refine Lib.wpList_append_run _ rfl _ _ _ _ rfl _ _ rfl rfl _ _ HR.out ?_)
            go_roundw
            case rel => exact ⟨gl' ++ [0], N + 1, A2, c2, by omega, Lib.hid ⟨HN2.out, by omega, fun j => by rw [gAt_app0]; exact HG.out.2.2 j⟩, M5⟩
            case measure => rw [HL1.out, HL2.out]; omega
          · obtain ⟨A, c, hv, hlc, hcm2, hrow⟩ := Has.rwsv ig_rowT.len (M3.out.pick (Gens (.slice Ag' N cg') gl'))
            injection hv with e1 e2 e3
            subst e1 e3
            obtain ⟨x, hx⟩ : ∃ x, gl'[k]? = some x := ⟨_, List.getElem?_eq_getElem (by rw [HG.out.1]; omega)⟩
            obtain ⟨g, hA, -, hcell⟩ := hrow k x hx
            subst hA
            have c0 : wr.cell? ⟨g, k, none⟩ = some (.int .i64 x) := by have h9 := hcell 0 _ rfl; rwa [Nat.mul_one] at h9
            have fz : wr.frozen? ⟨g, k, none⟩ = false := Has.rwsLive (M3.out.pick (Gens (.slice (some ⟨g, 0, none⟩) N cg') gl')) k
            obtain ⟨g1, hg1⟩ : ∃ g1, wrap64 (x + 1) = g1 := ⟨_, rfl⟩
            have hcN : N ≤ cg' := by rw [e2]; exact hlc
            have M4 : Hid (Has B w (wr.setCell ⟨g, k, none⟩ (.int .i64 g1)) (Dl r ⟨ml, gl'.set k g1, tl, sd, ar, .slice Am ml.length cm, .slice (some ⟨g, 0, none⟩) N cg', vt⟩ Y)) := Lib.hid (by
              have h9 := (M3.out.pick (Gens (.slice (some ⟨g, 0, none⟩) N cg') gl')).rwsSet ig_rowT.len k x g1 hx 0 (by decide) (.int .i64 g1) rfl
              rw [Nat.mul_one] at h9
              exact h9.norm (Star (Cel r 33 (Dt.arr ⟨ml, gl', tl, sd, ar, .slice Am ml.length cm, .slice (some ⟨g, 0, none⟩) N cg', vt⟩)) (Star (Mods (.slice Am ml.length cm) ml) (Star (Gens (.slice (some ⟨g, 0, none⟩) N cg') (gl'.set k g1)) (Star (Thrs vt tl) (Star (All dtR tl) Y))))))
            have HGN : Hid (GNext gl (gl'.set k g1) (k : Int) ∧ wrap64 (gAt gl (k : Int) + 1) = g1) := Lib.hid (by
              have h1 : gAt gl (k : Int) = x := by rw [← HG.out.2.2, gAt_get hx]
              refine ⟨⟨by rw [List.length_set, HG.out.1, Int.toNat_natCast]; exact HG.out.2.1, fun j => ?_⟩, by rw [h1]; exact hg1⟩
              rw [gAt_set (by rw [HG.out.1]; omega), h1, hg1, HG.out.2.2])
            have c0' : (wr.setCell ⟨g, k, none⟩ (.int .i64 g1)).cell? ⟨g, k, none⟩ = some (.int .i64 g1) := by
              obtain ⟨A', c', hv', -, -, hrow'⟩ := Has.rwsv ig_rowT.len (M4.out.pick (Gens (.slice (some ⟨g, 0, none⟩) N cg') (gl'.set k g1)))
              obtain ⟨g'', hA'', -, hc''⟩ := hrow' k g1 (List.getElem?_set_self (by rw [HG.out.1]; omega))
              injection hv' with e1 e2 e3
              rw [← e1] at hA''
              cases hA''
              have h9 := hc'' 0 _ rfl
              rwa [Nat.mul_one] at h9
            have HC0 := Lib.hid c0'
            clear hrow hcell hx hlc e2 HG HL1 c0'
            go_upto_region 12 with fail
            go_upto_region 13 with fail
            clear c0 fz s1
            obtain ⟨W1, hW⟩ : ∃ W1, wr.setCell ⟨g, k, none⟩ (.int .i64 g1) = W1 := ⟨_, rfl⟩
            rw [hg1, hW] at ⊢
            rw [hW] at M4 HC0
            clear hW M3 hg1
            generalize gl'.set k g1 = gl2 at M4 HGN
            have c0 : W1.cell? ⟨g, k, none⟩ = some (.int .i64 g1) := HC0.out
            have s1 : W1.cell? ⟨r, 1, none⟩ = some (.slice (some ⟨g, 0, none⟩) N cg') := M4.out.cellat r 1 rfl
            have Na := Lib.hid (M4.out.newcel 107 #[.int .i64 0, .int .i64 0, .int .i64 0, .int .i64 0, .string ⟨#[]⟩, .bool false])
            have Nb := Lib.hid (Na.out.rowc W1.heap.size #[.int .i64 k, .int .i64 g1, .int .i64 size, .int .i64 0, .string S, .bool false])
            go_upto_region 14 with (refine wpList_store_row rfl 107 _ _ rfl W1.heap.size #[.int .i64 k, .int .i64 g1, .int .i64 size, .int .i64 0, .string S, .bool false] rfl rfl 107 #[.int .i64 0, .int .i64 0, .int .i64 0, .int .i64 0, .string ⟨#[]⟩, .bool false] (Na.out.getc W1.heap.size) (by kernel_rfl) rfl (by kernel_rfl) ?_)
            obtain ⟨W2, hW⟩ : ∃ W2, (W1.alloc (.cells #[.int .i64 0, .int .i64 0, .int .i64 0, .int .i64 0, .string ⟨#[]⟩, .bool false] 107)).setRow W1.heap.size #[.int .i64 k, .int .i64 g1, .int .i64 size, .int .i64 0, .string S, .bool false] = W2 := ⟨_, rfl⟩
            rw [hW] at Nb ⊢
            clear hW Na c0 s1 HC0
            generalize W1.heap.size = x11 at Nb ⊢
            clear M4
            go_upto_region 17 with fail
            have Nn := Nb
            clear Nb
            have M9 := Lib.hid (Nn.out.stay ((Below.refl _ W2).drew))
            have hS0 : (fun X : World => Blk X x11 107 #[.int .i64 k, .int .i64 g1, .int .i64 size, .int .i64 0, .string S, .bool false]) W2.drew := M9.out.getc x11
            obtain ⟨v', w', hr, m⟩ := Has.append1 dm_rowT (M9.out.pick (Mods (.slice Am ml.length cm) ml)) ⟨(k : Int), g1, size, 0, tm, false⟩ #[.int .i64 k, .int .i64 g1, .int .i64 size, .int .i64 0, .string S, .bool false] (by show _ = dmC _; unfold dmC; rw [HS.out]) (by have := HML.out; omega) 29
            obtain ⟨A2, c2, hv2, -, -, -⟩ := Has.rwsv dm_rowT.len m
            obtain ⟨n2, hn2⟩ : ∃ n2, (ml ++ [(⟨(k : Int), g1, size, 0, tm, false⟩ : DM)]).length = n2 := ⟨_, rfl⟩
            rw [hn2] at hv2
            subst hv2
            have HN2 := Lib.hid hn2
            have HR := Lib.hid hr
            have M10 := Lib.hid m
            clear hr m hn2
            have HF : Hid (DRegE r ⟨ml, gl, tl, sd, ar, .slice Am ml.length cm, .slice Ag gl.length cg, vt⟩ Y B w tm size false (.returned (.tuple #[.int .i64 k, .int .i64 0])) (w'.setCell ⟨r, 0, none⟩ (.slice A2 n2 c2))) := Lib.hid ⟨_, _, _, dreg_ok HOK.out HFR.out HGN.out (vm := .slice A2 n2 c2) (vg := .slice (some ⟨g, 0, none⟩) N cg'), rfl, by
              have h9 := M10.out.cellc r 0 (.slice A2 n2 c2) (Dt.arr ⟨ml ++ [⟨(k : Int), g1, size, 0, tm, false⟩], gl2, tl, sd, ar, .slice A2 n2 c2, .slice (some ⟨g, 0, none⟩) N cg', vt⟩) rfl
              exact h9.norm (Star (Cel r 33 (Dt.arr ⟨ml ++ [⟨(k : Int), g1, size, 0, tm, false⟩], gl2, tl, sd, ar, .slice A2 n2 c2, .slice (some ⟨g, 0, none⟩) N cg', vt⟩)) (Star (Mods (.slice A2 n2 c2) (ml ++ [⟨(k : Int), g1, size, 0, tm, false⟩])) (Star (Gens (.slice (some ⟨g, 0, none⟩) N cg') gl2) (Star (Thrs vt tl) (Star (All dtR tl) Y)))))⟩
            refine wp_region_noPanic ?_
            refine wp_region_held_drew (S := fun X : World => Blk X x11 107 #[.int .i64 k, .int .i64 g1, .int .i64 size, .int .i64 0, .string S, .bool false]) (by kernel_rfl) hS0 ?_
            clear hS0
            intro hS
            refine takeR (i := 0) (v := .pointer (some ⟨r, 0, none⟩)) 108 rfl (by kernel_rfl) (by kernel_rfl) (by kernel_rfl) (by kernel_rfl) (fun _ _ _ h => h) (yields_pure (by kernel_rfl) (fun w => by kernel_rfl)) hS ?_
            refine takeR (i := 1) (v := .pointer (some ⟨r, 0, none⟩)) 109 rfl (by kernel_rfl) (by kernel_rfl) (by kernel_rfl) (by kernel_rfl) (fun _ _ _ h => h) (yields_pure (by kernel_rfl) (fun w => by kernel_rfl)) hS ?_
            refine takeR (i := 2) (v := .pointer (some ⟨r, 0, none⟩)) 110 rfl (by kernel_rfl) (by kernel_rfl) (by kernel_rfl) (by kernel_rfl) (fun _ _ _ h => h) (yields_pure (by kernel_rfl) (fun w => by kernel_rfl)) hS ?_
            refine takeR (i := 3) (v := .pointer (some ⟨r, 0, none⟩)) 111 rfl (by kernel_rfl) (by kernel_rfl) (by kernel_rfl) (by kernel_rfl) (fun _ _ _ h => h) (yields_pure (by kernel_rfl) (fun w => by kernel_rfl)) hS ?_
            refine takeR (i := 5) 113 rfl (by kernel_rfl) (by kernel_rfl) (by kernel_rfl) (by kernel_rfl) (fun _ _ _ h => h) (yields_load_row (by kernel_rfl) 107 _ rfl x11 (by kernel_rfl) 107 #[.int .i64 k, .int .i64 g1, .int .i64 size, .int .i64 0, .string S, .bool false] _ (fun X h => h) Tryz.underlying107 rfl (by kernel_rfl)) hS ?_
            have M9a := Lib.hid (M9.out.stay ((Below.refl _ W2.drew).alloc (Nat.le_refl _) (.cells #[.int .i64 k, .int .i64 g1, .int .i64 size, .int .i64 0, .string S, .bool false] 107)))
            refine wpAnyH_all (rs := [4, 6]) (by kernel_rfl) (by simp) ?_
            intro j hj
            obtain rfl | rfl : j = 4 ∨ j = 6 := by simpa using hj
            focus
              refine opR_run (v := .slice Am ml.length cm) (w' := W2.drew) 112 rfl (by kernel_rfl) (by kernel_rfl) (exec_load_cell 29 (.tmp 111) (by kernel_rfl) r 0 (by kernel_rfl) (.slice Am ml.length cm) (M9.out.cellat r 0 rfl) _ Tryz.underlying29 rfl) ?_
              refine ⟨hS, ?_⟩
              refine wpAnyH_all (rs := [6]) (by kernel_rfl) (by simp) ?_
              intro j hj
              obtain rfl : j = 6 := by simpa using hj
              refine opR_run (v := .slice (some ⟨W2.drew.heap.size, 0, none⟩) 1 1) (w' := W2.drew.alloc (.cells #[.int .i64 k, .int .i64 g1, .int .i64 size, .int .i64 0, .string S, .bool false] 107)) 114 rfl (by kernel_rfl) (by kernel_rfl) (by kernel_rfl) ?_
              refine ⟨M9a.out.getc x11, ?_⟩
              refine wpAnyH_all (rs := [7]) (by kernel_rfl) (by simp) ?_
              intro j hj
              obtain rfl : j = 7 := by simpa using hj
              refine opR_run (v := .slice A2 n2 c2) (w' := w') 115 rfl (by kernel_rfl) (by kernel_rfl) (exec_append_run (.tmp 112) (.tmp 114) 29 29 (by kernel_rfl) (.slice Am ml.length cm) (.slice (some ⟨W2.drew.heap.size, 0, none⟩) 1 1) (by kernel_rfl) (by kernel_rfl) HR.out) ?_
              have hS2 : Blk w' x11 107 #[.int .i64 k, .int .i64 g1, .int .i64 size, .int .i64 0, .string S, .bool false] := M10.out.getc x11
              refine ⟨hS2, ?_⟩
              refine takeR (i := 8) (v := .pointer (some ⟨r, 0, none⟩)) 116 rfl (by kernel_rfl) (by kernel_rfl) (by kernel_rfl) (by kernel_rfl) (fun _ _ _ h => h) (yields_pure (by kernel_rfl) (fun w => by kernel_rfl)) hS2 ?_
              refine takeR (i := 9) (v := .pointer (some ⟨r, 0, none⟩)) 117 rfl (by kernel_rfl) (by kernel_rfl) (by kernel_rfl) (by kernel_rfl) (fun _ _ _ h => h) (yields_pure (by kernel_rfl) (fun w => by kernel_rfl)) hS2 ?_
              refine wpAnyH_all (rs := [10]) (by kernel_rfl) (by simp) ?_
              intro j hj
              obtain rfl : j = 10 := by simpa using hj
              refine opR_slice rfl (by kernel_rfl) (by kernel_rfl) 29 (.tmp 117) (.tmp 115) (by kernel_rfl) r 0 A2 n2 c2 (.slice Am ml.length cm) (by kernel_rfl) (by kernel_rfl) (M10.out.cellat r 0 rfl) (M10.out.liveat r 0) (by kernel_rfl) ?_
              have M11 := Lib.hid (M10.out.cellc r 0 (.slice A2 n2 c2) (Dt.arr ⟨ml, gl2, tl, sd, ar, .slice A2 n2 c2, .slice (some ⟨g, 0, none⟩) N cg', vt⟩) rfl)
              refine ⟨M11.out.getc x11, ?_⟩
              refine wpAnyH_done (by kernel_rfl) ?_ _
              refine NoPanic.normal ?_
              simp only [Act.put, List.setIfInBounds_toArray, List.set_cons_succ, List.set_cons_zero]
              clear M11 M10 M9 M9a hS hS2 Nn
              go_wp2_with fail
              go_ret2
              exact HF.out
            focus
              refine opR_run (v := .slice (some ⟨W2.drew.heap.size, 0, none⟩) 1 1) (w' := W2.drew.alloc (.cells #[.int .i64 k, .int .i64 g1, .int .i64 size, .int .i64 0, .string S, .bool false] 107)) 114 rfl (by kernel_rfl) (by kernel_rfl) (by kernel_rfl) ?_
              refine ⟨M9a.out.getc x11, ?_⟩
              refine wpAnyH_all (rs := [4]) (by kernel_rfl) (by simp) ?_
              intro j hj
              obtain rfl : j = 4 := by simpa using hj
              refine opR_run (v := .slice Am ml.length cm) (w' := W2.drew.alloc (.cells #[.int .i64 k, .int .i64 g1, .int .i64 size, .int .i64 0, .string S, .bool false] 107)) 112 rfl (by kernel_rfl) (by kernel_rfl) (exec_load_cell 29 (.tmp 111) (by kernel_rfl) r 0 (by kernel_rfl) (.slice Am ml.length cm) (M9a.out.cellat r 0 rfl) _ Tryz.underlying29 rfl) ?_
              refine ⟨M9a.out.getc x11, ?_⟩
              refine wpAnyH_all (rs := [7]) (by kernel_rfl) (by simp) ?_
              intro j hj
              obtain rfl : j = 7 := by simpa using hj
              refine opR_run (v := .slice A2 n2 c2) (w' := w') 115 rfl (by kernel_rfl) (by kernel_rfl) (exec_append_run (.tmp 112) (.tmp 114) 29 29 (by kernel_rfl) (.slice Am ml.length cm) (.slice (some ⟨W2.drew.heap.size, 0, none⟩) 1 1) (by kernel_rfl) (by kernel_rfl) HR.out) ?_
              have hS2 : Blk w' x11 107 #[.int .i64 k, .int .i64 g1, .int .i64 size, .int .i64 0, .string S, .bool false] := M10.out.getc x11
              refine ⟨hS2, ?_⟩
              refine takeR (i := 8) (v := .pointer (some ⟨r, 0, none⟩)) 116 rfl (by kernel_rfl) (by kernel_rfl) (by kernel_rfl) (by kernel_rfl) (fun _ _ _ h => h) (yields_pure (by kernel_rfl) (fun w => by kernel_rfl)) hS2 ?_
              refine takeR (i := 9) (v := .pointer (some ⟨r, 0, none⟩)) 117 rfl (by kernel_rfl) (by kernel_rfl) (by kernel_rfl) (by kernel_rfl) (fun _ _ _ h => h) (yields_pure (by kernel_rfl) (fun w => by kernel_rfl)) hS2 ?_
              refine wpAnyH_all (rs := [10]) (by kernel_rfl) (by simp) ?_
              intro j hj
              obtain rfl : j = 10 := by simpa using hj
              refine opR_slice rfl (by kernel_rfl) (by kernel_rfl) 29 (.tmp 117) (.tmp 115) (by kernel_rfl) r 0 A2 n2 c2 (.slice Am ml.length cm) (by kernel_rfl) (by kernel_rfl) (M10.out.cellat r 0 rfl) (M10.out.liveat r 0) (by kernel_rfl) ?_
              have M11 := Lib.hid (M10.out.cellc r 0 (.slice A2 n2 c2) (Dt.arr ⟨ml, gl2, tl, sd, ar, .slice A2 n2 c2, .slice (some ⟨g, 0, none⟩) N cg', vt⟩) rfl)
              refine ⟨M11.out.getc x11, ?_⟩
              refine wpAnyH_done (by kernel_rfl) ?_ _
              refine NoPanic.normal ?_
              simp only [Act.put, List.setIfInBounds_toArray, List.set_cons_succ, List.set_cons_zero]
              clear M11 M10 M9 M9a hS hS2 Nn
              go_wp2_with fail
              go_ret2
              exact HF.out
      · obtain ⟨hp, x, hx1, hx2⟩ := mIdx_pos hm
        generalize mIdx ml (k : Int) = z at hp C1
        have HB2 : Hid (∀ j : Int, 1 ≤ j → j < ((k + 1 : Nat) : Int) → ∃ x ∈ ml, x.n = j) := Lib.hid (fun j h1 h2 => by
          by_cases h : j = k
          · subst h
            exact ⟨x, hx1, hx2⟩
          · exact HB.out j h1 (by omega))
        have hlen := dfree_len (l := ml) (n := ((k + 1 : Nat) : Int)) (by omega) HB2.out
        clear hm hx1 hx2 HB
        go_wp2_with fail
        refine (C1.out).mono ?_
        rintro e w1 ⟨rfl, rfl⟩
        go_wp2
        go_round
        case rel => exact ⟨k + 1, by omega, by omega, by go_num, HB2⟩
        case measure => simp [intOf]; omega
end Go.Proofs.YtpenejigebkkmaaGreat
