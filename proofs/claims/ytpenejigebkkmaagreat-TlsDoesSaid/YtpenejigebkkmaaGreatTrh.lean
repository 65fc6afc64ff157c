/-
  Layer 17, the document's side: Start.
  Conditions: none. (My own text.)
-/
import Derived.Test.YtpenejigebkkmaaGreatTgg
import Derived.StillTailTactics
namespace Go.Proofs.YtpenejigebkkmaaGreat
open Go.RowKit Spm
set_option linter.unusedVariables false
set_option linter.unusedSimpArgs false
attribute [local irreducible] wpList

def DStartE (r q : Nat) (d : Dt) (L : List Rg) (Y : Res) (B : Nat) (w : World) (id : Int) (e : Ending) (w' : World) : Prop := ∃ n k d' L', DStartP d L id n k d' L' ∧ e = .returned (.tuple #[.int .i64 n, .int .i64 k]) ∧ Has B w w' (Dl r d' (Star (Rf q L') Y))
theorem dstart_bad {d : Dt} {L : List Rg} {id : Int} (h : (efind DT.id d.tl id).isSome = true ∨ id < 0 ∨ 16 ≤ id) : DStartP d L id 0 171 d L := by unfold DStartP; rw [if_pos h]; exact ⟨rfl, rfl, rfl, rfl⟩
theorem dstart_no {d : Dt} {L L1 : List Rg} {id at_ e1 : Int} (h : ¬ ((efind DT.id d.tl id).isSome = true ∨ id < 0 ∨ 16 ≤ id)) (hm : mapS L (max 8 d.ar) 3 = (L1, at_, e1)) (he : ¬ e1 = 0) : DStartP d L id 0 e1 d L1 := by unfold DStartP; rw [if_neg h, hm, if_neg he]; exact ⟨rfl, rfl, rfl, rfl⟩
theorem dstart_ok {d : Dt} {L L1 : List Rg} {id at_ e1 : Int} (h : ¬ ((efind DT.id d.tl id).isSome = true ∨ id < 0 ∨ 16 ≤ id)) (hm : mapS L (max 8 d.ar) 3 = (L1, at_, e1)) (he : e1 = 0) (vt : Value) : DStartP d L id at_ 0 { d with sd := true, tl := d.tl ++ [⟨id, at_, none, 0, []⟩], vt := vt } (fillsS at_ L1 d.ml) := by unfold DStartP; rw [if_neg h, hm, if_pos he]; exact ⟨rfl, rfl, rfl, vt, rfl⟩
theorem wpStill_part {P : Program} {ops : Array Oper} {rest : List Oper} {o : Oper} {a : Go.Act} {w : World} {Q : Go.Act → Prop} (hgd : o.guard = none) (ty : TypeId) (x : Operand) (ho : o.op = .load ty x) (g k : Nat) (hx : a.eval x = .pointer (some ⟨g, k, none⟩)) (cs : Array Value) (d : TypeDesc)
    (hg : ∀ j v, cs.toList[j]? = some v → w.cell? ⟨g, k + j, none⟩ = some v) (hu : P.underlying ty = some d) (hd : (match d with | .struct _ | .array _ _ => true | _ => false) = true) (hi : (P.info? ty).map (·.size) = some cs.size)
    (h : wpStill P ops w Q rest (a.put o.dst (.agg cs))) : wpStill P ops w Q (o :: rest) a := by
  refine wpStill_step (fun K hK => ?_)
  rw [if_pos (by simp [Region.wanted, hgd])]
  have hr : (execOp a.eval o).run P w = .ok (.value (.agg cs)) w := by
    unfold execOp
    simp only [ho, hx, Instr.loadAt, Instr.sureAddr, Sem.run_bind, Sem.run_pure, Result.andThen_ok, run_loadVar_part w g k ty cs d hg hu hd hi]
  unfold Oper.still
  rw [hr, Oper.stillUpon_value]
  exact hK _ h
theorem wrap64_I64' (n : Int) : I64 (wrap64 n) := by unfold I64 wrap64; omega
theorem fillsS_snoc (q : Int) (L : List Rg) (l : List DM) (j : Nat) (x : DM) (h : l[j]? = some x) : fillsS q L (l.take (j + 1)) = if x.st = true then fillS (fillsS q L (l.take j)) (wrap64 (q + x.bh)) x else fillsS q L (l.take j) := by
  unfold fillsS
  rw [List.take_add_one, h, List.foldl_append]
  rfl
set_option maxRecDepth 100000 in
set_option maxHeartbeats 8000000 in
theorem rstart_any {B : Nat} {w wr : World} {Y : Res} [hY : Fr Y] {r q : Nat} {d : Dt} {L : List Rg} (h : Has B w wr (Dl r d (Star (Rf q L) Y))) (hml : d.ml.length ≤ 1000) (htl : d.tl.length ≤ 1000) (ha0 : 0 ≤ d.ar) (ha1 : d.ar ≤ 4096) (htm : ∀ x ∈ d.ml, x.tm.length ≤ 9223372036854775807) (id : Int) : Calls Tryz.prog 29 #[.pointer (some ⟨r, 0, none⟩), .pointer (some ⟨q, 0, none⟩), .int .i64 id] wr (DStartE r q d L Y B w id) := by
  have C1 := Lib.hid (rthread_any h id)
  have M0 := Lib.hid h
  by_cases i0 : id < 0
  · have HE : Hid (DStartE r q d L Y B w id (.returned (.tuple #[.int .i64 0, .int .i64 171])) wr) := Lib.hid ⟨_, _, _, _, dstart_bad (.inr (.inl i0)), rfl, h⟩
    clear h C1 M0
    go_enter Tryz.func29, Tryz.ntmps29
    go_wp2
    go_ret2
    exact HE.out
  by_cases i1 : 16 ≤ id
  · have HE : Hid (DStartE r q d L Y B w id (.returned (.tuple #[.int .i64 0, .int .i64 171])) wr) := Lib.hid ⟨_, _, _, _, dstart_bad (.inr (.inr i1)), rfl, h⟩
    clear h C1 M0
    go_enter Tryz.func29, Tryz.ntmps29
    go_wp2
    go_ret2
    exact HE.out
  rcases idxI_cases (fun x : DT => decide (x.id = id)) d.tl with ⟨h1, h2⟩ | ⟨l1, y, l2, h1, h2, h3, h4⟩
  · have hm : tIdx d.tl id = -1 := h1
    rw [hm] at C1
    have HNB : Hid (¬ ((efind DT.id d.tl id).isSome = true ∨ id < 0 ∨ 16 ≤ id)) := Lib.hid (by rw [efind_none_of' h2]; intro hh; rcases hh with hh | hh | hh; cases hh; exact i0 hh; exact i1 hh)
    have s4 : wr.cell? ⟨r, 4, none⟩ = some (.int .i64 d.ar) := h.cellat r 4 rfl
    obtain ⟨Am, cm, hvm, hlm, hcm, -⟩ := Has.rwsv dm_rowT.len (h.pick (Mods d.vm d.ml))
    obtain ⟨NM, hN⟩ : ∃ NM, d.ml.length = NM := ⟨_, rfl⟩
    rw [hN] at hvm hlm hml
    have HVM := Lib.hid hvm
    have HNM := Lib.hid hN
    unfold maxLen at hcm
    have HTM := Lib.hid htm
    have HTL := Lib.hid htl
    obtain ⟨ar, har⟩ : ∃ ar, d.ar = ar := ⟨_, rfl⟩
    have HAR := Lib.hid har
    rw [har] at s4 ha0 ha1
    clear h hm h1 h2 hvm hN htm htl har
    by_cases ha8 : ar < 8
    · have HMX : Hid (max 8 d.ar = 8) := Lib.hid (by rw [HAR.out]; omega)
      go_enter Tryz.func29, Tryz.ntmps29
      go_wp2_with fail
      refine (C1.out).mono ?_
      rintro e w1 ⟨rfl, rfl⟩
      clear C1
--R8
      go_upto_region 6 with fail
      have C2 := Lib.hid (own_rmap (M0.out.pick (Rf q L)) 8 3)
      obtain ⟨L1, at_, e1, hmp⟩ : ∃ L1 at_ e1, mapS L 8 3 = (L1, at_, e1) := ⟨_, _, _, rfl⟩
      rw [hmp] at C2
      have HMP : Hid (mapS L (max 8 d.ar) 3 = (L1, at_, e1)) := Lib.hid (by rw [HMX.out]; exact hmp)
      clear hmp M0 s4
      go_wp2_with fail
      refine (C2.out).mono ?_
      rintro e w2 ⟨rfl, m⟩
      have M1 : Hid (Has B w w2 (Dl r d (Star (Rf q L1) Y))) := Lib.hid (m.norm (Star (Cel r 33 d.arr) (Star (Mods d.vm d.ml) (Star (Gens d.vg d.gl) (Star (Thrs d.vt d.tl) (Star (All dtR d.tl) (Star (Rf q L1) Y)))))))
      clear m C2
      by_cases he : e1 = 0
      · have HE : Hid (∀ w' vt, Has B w w' (Dl r { d with sd := true, tl := d.tl ++ [⟨id, at_, none, 0, []⟩], vt := vt } (Star (Rf q (fillsS at_ L1 d.ml)) Y)) → DStartE r q d L Y B w id (.returned (.tuple #[.int .i64 at_, .int .i64 0])) w') := Lib.hid (fun w' vt hh => ⟨_, _, _, _, dstart_ok HNB.out HMP.out he vt, rfl, hh⟩)
        subst he
        clear HMP HNB
        go_wp2
        have M1' : Hid (Has B w w2 (Dl r d (Star (Rf q (fillsS at_ L1 (d.ml.take 0))) Y))) := M1
        clear M1
        go_loopw [11] (fun i wr => ∃ j : Nat, j ≤ NM ∧ i = .int .i64 j ∧ Hid (Has B w wr (Dl r d (Star (Rf q (fillsS at_ L1 (d.ml.take j))) Y)))) (fun i _ => NM - (intOf i).toNat)
        case atStart => exact ⟨0, Nat.zero_le _, rfl, M1'⟩
        case round =>
          obtain ⟨j, hj, rfl, M2⟩ := hrel
          clear M1'
          have s0 : wr.cell? ⟨r, 0, none⟩ = some (.slice Am NM cm) := by rw [← HVM.out]; exact M2.out.cellat r 0 rfl
          by_cases hlt : j < NM
          · obtain ⟨x, hx⟩ : ∃ x, d.ml[j]? = some x := ⟨_, List.getElem?_eq_getElem (by rw [HNM.out]; exact hlt)⟩
            obtain ⟨A0, c0, hv0, -, -, hrow⟩ := Has.rwsv dm_rowT.len (M2.out.pick (Mods d.vm d.ml))
            obtain ⟨g, hA, -, hcell⟩ := hrow _ _ hx
            subst hA
            have h9 := HVM.out
            rw [hv0] at h9
            injection h9 with q1 q2 q3
            subst q1 q3
            have HTX := Lib.hid (HTM.out x (List.mem_of_getElem? hx))
            have HSN := Lib.hid (fillsS_snoc at_ L1 d.ml j x hx)
            obtain ⟨xn, xg, xs, xb, tm, xst⟩ := x
            have t5 : wr.cell? ⟨g, j * 6 + 5, none⟩ = some (.bool xst) := hcell 5 _ rfl
            have t3 : wr.cell? ⟨g, j * 6 + 3, none⟩ = some (.int .i64 xb) := hcell 3 _ rfl
            have HCL := Lib.hid hcell
            clear hrow hcell hv0 q2 hx
            cases xst with
            | false =>
              rw [if_neg (by simp)] at HSN
              rw [← HSN.out] at M2
              clear t3 HCL
              go_wp2
              go_roundw
              case rel => exact ⟨j + 1, by omega, by go_num, M2⟩
              case measure => simp [intOf]; omega
            | true =>
              rw [if_pos rfl] at HSN
              have M3 := Lib.hid (M2.out.stay ((Below.refl _ wr).drew))
              have C3 := Lib.hid (rfill_any (M3.out.pick (Rf q (fillsS at_ L1 (d.ml.take j)))) (wrap64 (at_ + xb)) (wrap64_I64' _) ⟨xn, xg, xs, xb, tm, true⟩ HTX.out)
              have cel : ∀ j' v, (dmA ⟨xn, xg, xs, xb, tm, true⟩).toList[j']? = some v → wr.drew.cell? ⟨g, j * 6 + j', none⟩ = some v := fun j' v hv => HCL.out j' v hv
              have s0' : wr.drew.cell? ⟨r, 0, none⟩ = some (.slice (some ⟨g, 0, none⟩) NM c0) := s0
              have t3' : wr.drew.cell? ⟨g, j * 6 + 3, none⟩ = some (.int .i64 xb) := t3
              clear M2
              go_upto_region 13 with fail
              go_still_tail 18, (by kernel_rfl)
              refine wpStill_part rfl 107 _ rfl g (j * 6) rfl (dmA ⟨xn, xg, xs, xb, tm, true⟩) _ cel Tryz.underlying107 rfl (by kernel_rfl) ?_
              refine wpStill_nil ?_
              change wpList _ _ _ _ _ wr.drew
              generalize wr.drew = W2 at M3 C3 cel s0' t3' ⊢
              clear s0 t3 t5 HCL
              go_wp2_with fail
              try rw [i64_wrap64]
              refine (C3.out).mono ?_
              rintro e w3 ⟨rfl, m⟩
              have M4 : Hid (Has B w w3 (Dl r d (Star (Rf q (fillsS at_ L1 (d.ml.take (j + 1)))) Y))) := Lib.hid (by
                rw [HSN.out]
                exact m.norm (Star (Cel r 33 d.arr) (Star (Mods d.vm d.ml) (Star (Gens d.vg d.gl) (Star (Thrs d.vt d.tl) (Star (All dtR d.tl) (Star (Rf q (fillS (fillsS at_ L1 (d.ml.take j)) (wrap64 (at_ + xb)) ⟨xn, xg, xs, xb, tm, true⟩)) Y)))))))
              clear m C3 M3 cel
              go_wp2
              go_roundw
              case rel => exact ⟨j + 1, by omega, by go_num, M4⟩
              case measure => simp [intOf]; omega
          · obtain rfl : j = NM := by omega
            have htk : d.ml.take j = d.ml := by rw [← HNM.out, List.take_length]
            rw [htk] at M2
            obtain ⟨Av, cv, hvt, -, -, -⟩ := Has.rwsv dt_rowT.len (M2.out.pick (Thrs d.vt d.tl))
            obtain ⟨NT, hNT⟩ : ∃ NT, d.tl.length = NT := ⟨_, rfl⟩
            rw [hNT] at hvt
            have HVT := Lib.hid hvt
            have s3 : wr.cell? ⟨r, 3, none⟩ = some (.bool d.sd) := M2.out.cellat r 3 rfl
            have f3 : wr.frozen? ⟨r, 3, none⟩ = false := M2.out.liveat r 3
            have M3 := Lib.hid (M2.out.cellc r 3 (.bool true) (Dt.arr { d with sd := true }) rfl)
            clear htk hvt hNT M2
            go_upto_region 15 with fail
            obtain ⟨W3, hW⟩ : ∃ W3, wr.setCell ⟨r, 3, none⟩ (.bool true) = W3 := ⟨_, rfl⟩
            rw [hW] at M3 ⊢
            clear hW s0 s3 f3
            have s2 : W3.cell? ⟨r, 2, none⟩ = some (.slice Av NT cv) := by rw [← HVT.out]; exact M3.out.cellat r 2 rfl
            obtain ⟨v', w', hr, mm⟩ := Has.append1 dt_rowT (M3.out.pick (Thrs d.vt d.tl)) ⟨id, at_, none, 0, []⟩ #[.int .i64 id, .int .i64 at_, .slice none 0 0] rfl (by have := HTL.out; omega) 31
            rw [HVT.out] at hr
            obtain ⟨A2, c2, hv2, -, -, -⟩ := Has.rwsv dt_rowT.len mm
            obtain ⟨l12, hl12⟩ : ∃ l12, d.tl ++ [(⟨id, at_, none, 0, []⟩ : DT)] = l12 := ⟨_, rfl⟩
            rw [hl12] at hv2 mm HE
            generalize l12.length = n2 at hv2
            subst hv2
            have HR := Lib.hid hr
            have M4 := Lib.hid mm
            have HL12 := Lib.hid hl12
            clear hr mm hl12
            have s2' : w'.cell? ⟨r, 2, none⟩ = some d.vt := M4.out.cellat r 2 rfl
            have f2 : w'.frozen? ⟨r, 2, none⟩ = false := M4.out.liveat r 2
            have M5 := Lib.hid (M4.out.cellc r 2 (.slice A2 n2 c2) (Dt.arr { d with sd := true, tl := l12, vt := .slice A2 n2 c2 }) rfl)
            have HF : Hid (DStartE r q d L Y B w id (.returned (.tuple #[.int .i64 at_, .int .i64 0])) (w'.setCell ⟨r, 2, none⟩ (.slice A2 n2 c2))) := Lib.hid (HE.out _ (.slice A2 n2 c2) (by
              have h5 := M5.out.norm (Star (Cel r 33 (Dt.arr { d with sd := true, tl := l12, vt := .slice A2 n2 c2 })) (Star (Mods d.vm d.ml) (Star (Gens d.vg d.gl) (Star (Thrs (.slice A2 n2 c2) l12) (Star (All dtR d.tl) (Star (Rf q (fillsS at_ L1 d.ml)) Y))))))
              have h6 : Has B w _ (Star (Blks (.slice none 0 0) []) _) := Has.rwsNil h5
              have h7 := Dl.give (r := r) (d := { d with sd := true, tl := l12, vt := .slice A2 n2 c2 }) (y := ⟨id, at_, none, 0, []⟩) (l1 := d.tl) (l2 := []) (by rw [List.append_nil]; exact h6)
              rw [HL12.out] at h7
              exact h7))
            clear M3 M4 M5
            go_wp2_with (at_builtin; refine Lib.wpList_append_run _ rfl _ _ _ _ rfl _ _ rfl rfl _ _ HR.out ?_)
            go_ret2
            exact HF.out
      · have HE : Hid (DStartE r q d L Y B w id (.returned (.tuple #[.int .i64 0, .int .i64 e1])) w2) := Lib.hid ⟨_, _, _, _, dstart_no HNB.out HMP.out he, rfl, M1.out⟩
        clear M1 HMP HNB
        go_wp2
        go_ret2
        exact HE.out
--E8
    · have HMX : Hid (max 8 d.ar = ar) := Lib.hid (by rw [HAR.out]; omega)
      go_enter Tryz.func29, Tryz.ntmps29
      go_wp2_with fail
      refine (C1.out).mono ?_
      rintro e w1 ⟨rfl, rfl⟩
      clear C1
--RA
      go_upto_region 6 with fail
      have C2 := Lib.hid (own_rmap (M0.out.pick (Rf q L)) ar 3)
      obtain ⟨L1, at_, e1, hmp⟩ : ∃ L1 at_ e1, mapS L ar 3 = (L1, at_, e1) := ⟨_, _, _, rfl⟩
      rw [hmp] at C2
      have HMP : Hid (mapS L (max 8 d.ar) 3 = (L1, at_, e1)) := Lib.hid (by rw [HMX.out]; exact hmp)
      clear hmp M0 s4
      go_wp2_with fail
      refine (C2.out).mono ?_
      rintro e w2 ⟨rfl, m⟩
      have M1 : Hid (Has B w w2 (Dl r d (Star (Rf q L1) Y))) := Lib.hid (m.norm (Star (Cel r 33 d.arr) (Star (Mods d.vm d.ml) (Star (Gens d.vg d.gl) (Star (Thrs d.vt d.tl) (Star (All dtR d.tl) (Star (Rf q L1) Y)))))))
      clear m C2
      by_cases he : e1 = 0
      · have HE : Hid (∀ w' vt, Has B w w' (Dl r { d with sd := true, tl := d.tl ++ [⟨id, at_, none, 0, []⟩], vt := vt } (Star (Rf q (fillsS at_ L1 d.ml)) Y)) → DStartE r q d L Y B w id (.returned (.tuple #[.int .i64 at_, .int .i64 0])) w') := Lib.hid (fun w' vt hh => ⟨_, _, _, _, dstart_ok HNB.out HMP.out he vt, rfl, hh⟩)
        subst he
        clear HMP HNB
        go_wp2
        have M1' : Hid (Has B w w2 (Dl r d (Star (Rf q (fillsS at_ L1 (d.ml.take 0))) Y))) := M1
        clear M1
        go_loopw [11] (fun i wr => ∃ j : Nat, j ≤ NM ∧ i = .int .i64 j ∧ Hid (Has B w wr (Dl r d (Star (Rf q (fillsS at_ L1 (d.ml.take j))) Y)))) (fun i _ => NM - (intOf i).toNat)
        case atStart => exact ⟨0, Nat.zero_le _, rfl, M1'⟩
        case round =>
          obtain ⟨j, hj, rfl, M2⟩ := hrel
          clear M1'
          have s0 : wr.cell? ⟨r, 0, none⟩ = some (.slice Am NM cm) := by rw [← HVM.out]; exact M2.out.cellat r 0 rfl
          by_cases hlt : j < NM
          · obtain ⟨x, hx⟩ : ∃ x, d.ml[j]? = some x := ⟨_, List.getElem?_eq_getElem (by rw [HNM.out]; exact hlt)⟩
            obtain ⟨A0, c0, hv0, -, -, hrow⟩ := Has.rwsv dm_rowT.len (M2.out.pick (Mods d.vm d.ml))
            obtain ⟨g, hA, -, hcell⟩ := hrow _ _ hx
            subst hA
            have h9 := HVM.out
            rw [hv0] at h9
            injection h9 with q1 q2 q3
            subst q1 q3
            have HTX := Lib.hid (HTM.out x (List.mem_of_getElem? hx))
            have HSN := Lib.hid (fillsS_snoc at_ L1 d.ml j x hx)
            obtain ⟨xn, xg, xs, xb, tm, xst⟩ := x
            have t5 : wr.cell? ⟨g, j * 6 + 5, none⟩ = some (.bool xst) := hcell 5 _ rfl
            have t3 : wr.cell? ⟨g, j * 6 + 3, none⟩ = some (.int .i64 xb) := hcell 3 _ rfl
            have HCL := Lib.hid hcell
            clear hrow hcell hv0 q2 hx
            cases xst with
            | false =>
              rw [if_neg (by simp)] at HSN
              rw [← HSN.out] at M2
              clear t3 HCL
              go_wp2
              go_roundw
              case rel => exact ⟨j + 1, by omega, by go_num, M2⟩
              case measure => simp [intOf]; omega
            | true =>
              rw [if_pos rfl] at HSN
              have M3 := Lib.hid (M2.out.stay ((Below.refl _ wr).drew))
              have C3 := Lib.hid (rfill_any (M3.out.pick (Rf q (fillsS at_ L1 (d.ml.take j)))) (wrap64 (at_ + xb)) (wrap64_I64' _) ⟨xn, xg, xs, xb, tm, true⟩ HTX.out)
              have cel : ∀ j' v, (dmA ⟨xn, xg, xs, xb, tm, true⟩).toList[j']? = some v → wr.drew.cell? ⟨g, j * 6 + j', none⟩ = some v := fun j' v hv => HCL.out j' v hv
              have s0' : wr.drew.cell? ⟨r, 0, none⟩ = some (.slice (some ⟨g, 0, none⟩) NM c0) := s0
              have t3' : wr.drew.cell? ⟨g, j * 6 + 3, none⟩ = some (.int .i64 xb) := t3
              clear M2
              go_upto_region 13 with fail
              go_still_tail 18, (by kernel_rfl)
              refine wpStill_part rfl 107 _ rfl g (j * 6) rfl (dmA ⟨xn, xg, xs, xb, tm, true⟩) _ cel Tryz.underlying107 rfl (by kernel_rfl) ?_
              refine wpStill_nil ?_
              change wpList _ _ _ _ _ wr.drew
              generalize wr.drew = W2 at M3 C3 cel s0' t3' ⊢
              clear s0 t3 t5 HCL
              go_wp2_with fail
              try rw [i64_wrap64]
              refine (C3.out).mono ?_
              rintro e w3 ⟨rfl, m⟩
              have M4 : Hid (Has B w w3 (Dl r d (Star (Rf q (fillsS at_ L1 (d.ml.take (j + 1)))) Y))) := Lib.hid (by
                rw [HSN.out]
                exact m.norm (Star (Cel r 33 d.arr) (Star (Mods d.vm d.ml) (Star (Gens d.vg d.gl) (Star (Thrs d.vt d.tl) (Star (All dtR d.tl) (Star (Rf q (fillS (fillsS at_ L1 (d.ml.take j)) (wrap64 (at_ + xb)) ⟨xn, xg, xs, xb, tm, true⟩)) Y)))))))
              clear m C3 M3 cel
              go_wp2
              go_roundw
              case rel => exact ⟨j + 1, by omega, by go_num, M4⟩
              case measure => simp [intOf]; omega
          · obtain rfl : j = NM := by omega
            have htk : d.ml.take j = d.ml := by rw [← HNM.out, List.take_length]
            rw [htk] at M2
            obtain ⟨Av, cv, hvt, -, -, -⟩ := Has.rwsv dt_rowT.len (M2.out.pick (Thrs d.vt d.tl))
            obtain ⟨NT, hNT⟩ : ∃ NT, d.tl.length = NT := ⟨_, rfl⟩
            rw [hNT] at hvt
            have HVT := Lib.hid hvt
            have s3 : wr.cell? ⟨r, 3, none⟩ = some (.bool d.sd) := M2.out.cellat r 3 rfl
            have f3 : wr.frozen? ⟨r, 3, none⟩ = false := M2.out.liveat r 3
            have M3 := Lib.hid (M2.out.cellc r 3 (.bool true) (Dt.arr { d with sd := true }) rfl)
            clear htk hvt hNT M2
            go_upto_region 15 with fail
            obtain ⟨W3, hW⟩ : ∃ W3, wr.setCell ⟨r, 3, none⟩ (.bool true) = W3 := ⟨_, rfl⟩
            rw [hW] at M3 ⊢
            clear hW s0 s3 f3
            have s2 : W3.cell? ⟨r, 2, none⟩ = some (.slice Av NT cv) := by rw [← HVT.out]; exact M3.out.cellat r 2 rfl
            obtain ⟨v', w', hr, mm⟩ := Has.append1 dt_rowT (M3.out.pick (Thrs d.vt d.tl)) ⟨id, at_, none, 0, []⟩ #[.int .i64 id, .int .i64 at_, .slice none 0 0] rfl (by have := HTL.out; omega) 31
            rw [HVT.out] at hr
            obtain ⟨A2, c2, hv2, -, -, -⟩ := Has.rwsv dt_rowT.len mm
            obtain ⟨l12, hl12⟩ : ∃ l12, d.tl ++ [(⟨id, at_, none, 0, []⟩ : DT)] = l12 := ⟨_, rfl⟩
            rw [hl12] at hv2 mm HE
            generalize l12.length = n2 at hv2
            subst hv2
            have HR := Lib.hid hr
            have M4 := Lib.hid mm
            have HL12 := Lib.hid hl12
            clear hr mm hl12
            have s2' : w'.cell? ⟨r, 2, none⟩ = some d.vt := M4.out.cellat r 2 rfl
            have f2 : w'.frozen? ⟨r, 2, none⟩ = false := M4.out.liveat r 2
            have M5 := Lib.hid (M4.out.cellc r 2 (.slice A2 n2 c2) (Dt.arr { d with sd := true, tl := l12, vt := .slice A2 n2 c2 }) rfl)
            have HF : Hid (DStartE r q d L Y B w id (.returned (.tuple #[.int .i64 at_, .int .i64 0])) (w'.setCell ⟨r, 2, none⟩ (.slice A2 n2 c2))) := Lib.hid (HE.out _ (.slice A2 n2 c2) (by
              have h5 := M5.out.norm (Star (Cel r 33 (Dt.arr { d with sd := true, tl := l12, vt := .slice A2 n2 c2 })) (Star (Mods d.vm d.ml) (Star (Gens d.vg d.gl) (Star (Thrs (.slice A2 n2 c2) l12) (Star (All dtR d.tl) (Star (Rf q (fillsS at_ L1 d.ml)) Y))))))
              have h6 : Has B w _ (Star (Blks (.slice none 0 0) []) _) := Has.rwsNil h5
              have h7 := Dl.give (r := r) (d := { d with sd := true, tl := l12, vt := .slice A2 n2 c2 }) (y := ⟨id, at_, none, 0, []⟩) (l1 := d.tl) (l2 := []) (by rw [List.append_nil]; exact h6)
              rw [HL12.out] at h7
              exact h7))
            clear M3 M4 M5
            go_wp2_with (at_builtin; refine Lib.wpList_append_run _ rfl _ _ _ _ rfl _ _ rfl rfl _ _ HR.out ?_)
            go_ret2
            exact HF.out
      · have HE : Hid (DStartE r q d L Y B w id (.returned (.tuple #[.int .i64 0, .int .i64 e1])) w2) := Lib.hid ⟨_, _, _, _, dstart_no HNB.out HMP.out he, rfl, M1.out⟩
        clear M1 HMP HNB
        go_wp2
        go_ret2
        exact HE.out
--EA
  · have hm : tIdx d.tl id = (l1.length : Nat) := h2
    rw [hm] at C1
    have HE : Hid (DStartE r q d L Y B w id (.returned (.tuple #[.int .i64 0, .int .i64 171])) wr) := Lib.hid ⟨_, _, _, _, dstart_bad (.inl (by rw [h1, (efind_split_of (l2 := l2) h4 h3).1]; rfl)), rfl, h⟩
    generalize l1.length = k at C1
    clear h h1 h2 h3 h4 hm M0
    go_enter Tryz.func29, Tryz.ntmps29
    go_wp2_with fail
    refine (C1.out).mono ?_
    rintro e w1 ⟨rfl, rfl⟩
    clear C1
    go_wp2
    go_ret2
    exact HE.out
end Go.Proofs.YtpenejigebkkmaaGreat
