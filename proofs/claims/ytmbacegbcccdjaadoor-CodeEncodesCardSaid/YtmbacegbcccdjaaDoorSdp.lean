/-
  Layer 1's law: Owned: lists of bytes that came out are their owner's (the walk).
  Conditions: none. (My own text.)
-/
import Derived.Test.YtmbacegbcccdjaaDoorSdo
import Derived.Deep.RegionWith
namespace Go.Proofs.YtmbacegbcccdjaaDoor
open Go.RowKit Spm
set_option linter.unusedVariables false
set_option linter.unusedSimpArgs false

theorem grow_step {wo wr w' : World} {v vg m : Value} {N g c : Nat} (hv : ∀ b, v.ownBlock = some b → b < wo.heap.size) (hK : Keeps (fun b => v.ownBlock = some b) wo wr) (hM : Marks wr v m (fun b => v.ownBlock = some b)) (hvn : ∃ A n c, v = .slice A n c ∧ n ≤ N)
    (hgb : ∀ b, vg.ownBlock = some b → v.ownBlock = some b ∨ wo.heap.size ≤ b) (ho : w'.ownsRow 0 5 1 (.slice (some ⟨g, 0, none⟩) (N + 1) c) (N + 1) (List.replicate (N + 1) m))
    (hc : (vg.ownBlock = some g ∧ Keeps (fun b => b = g) wr w') ∨ (wr.heap.size ≤ g ∧ Below wr.heap.size wr w')) :
    Keeps (fun b => v.ownBlock = some b) wo w' ∧ Marks w' v m (fun b => v.ownBlock = some b) ∧ (∀ b, (Value.slice (some ⟨g, 0, none⟩) (N + 1) c).ownBlock = some b → v.ownBlock = some b ∨ wo.heap.size ≤ b) := by
  have hgg : ∀ b, (Value.slice (some ⟨g, 0, none⟩) (N + 1) c).ownBlock = some b → b = g := fun b hb => by simpa [Value.ownBlock, eq_comm] using hb
  rcases hc with ⟨h1, h2⟩ | ⟨h1, h2⟩
  · have h3 := hgb g h1
    refine ⟨hK.trans h2 (fun i hi => by subst hi; exact h3), ?_, fun b hb => by rw [hgg b hb]; exact h3⟩
    by_cases hvg : v.ownBlock = some g
    · obtain ⟨A, n, c', e1, e2, e3, e4⟩ := hM
      obtain ⟨A', n', c'', e5, e6⟩ := hvn
      rw [e1] at e5
      simp only [Value.slice.injEq] at e5
      obtain ⟨rfl, rfl, rfl⟩ := e5
      refine ⟨A, n, c', e1, e2, e3, fun j hj => ?_⟩
      obtain ⟨b, k1, k2, k3⟩ := e4 j hj
      obtain rfl : b = g := by rw [k2] at hvg; simpa using hvg
      refine ⟨b, k1, k2, ?_⟩
      rw [ho.cellAt j (by omega), List.getElem?_replicate, if_pos (by omega)]
    · refine hM.keep fun b hb hlt => ⟨h2.block b hlt (fun e => hvg (by rw [← e]; exact hb)), hb⟩
  · refine ⟨hK.trans (Keeps.of_below (F := fun _ => False) h2) (fun i hi => hi.elim), hM.keep fun b hb hlt => ⟨h2.block b hlt, hb⟩, fun b hb => .inr (by rw [hgg b hb]; exact Nat.le_trans hK.size h1)⟩

theorem own_one {w : World} {base : Nat} {T : TypeId} {size n : Nat} {v : Value} {xs : List Value} (h : w.ownsRow base T size v n xs) : v.oneCell' = true := by
  rcases h.2 with ⟨rfl, _⟩ | ⟨g, cap, cur, rfl, _⟩ <;> rfl

set_option maxRecDepth 100000 in
set_option maxHeartbeats 4000000 in
theorem owned_any (R c : Nat) (rows : List (Value × List UInt8)) (hN : rows.length ≤ 1000) (w : World) (hR : Blk w R 31 (rows.map (·.1)).toArray) (hO : ORows w R rows)
    (hrow : ∀ (j : Nat) (q : Value × List UInt8), rows[j]? = some q → Bys w 0 q.1 q.2) (hlen : ∀ (j : Nat) (q : Value × List UInt8), rows[j]? = some q → q.2.length ≤ 35184372088832) :
    Calls Tryd.prog 25 #[.slice (some ⟨R, 0, none⟩) rows.length c] w fun e w' => e = .returned (.bool true) ∧ Keeps (fun b => ∃ q ∈ rows, q.1.ownBlock = some b) w w' := by
  obtain ⟨N, hNe⟩ : ∃ N, rows.length = N := ⟨_, rfl⟩
  rw [hNe] at hN ⊢
  have HN := Lib.hid hNe
  have H0 : Hid (OInv w w R rows 0 (.slice none 0 0) []) := Lib.hid ⟨hR, World.ownsRow_nil _ _ _ _, fun i e hi => by simp at hi, fun j q _ hq => hrow j q hq, Keeps.refl _ _⟩
  have HO := Lib.hid hO
  have HL := Lib.hid hlen
  clear hR hO hrow hlen hNe
  go_enter Tryd.func25, Tryd.ntmps25
  go_wp2_with fail
  go_loopw [3, 4] (fun v i wr => ∃ (k : Nat) (ents : List Value), k ≤ N ∧ i = .int .i64 k ∧ Hid (OInv w wr R rows k v ents)) (fun _ i _ => N - (intOf i).toNat)
  case atStart => exact ⟨0, [], Nat.zero_le _, rfl, H0⟩
  case round =>
    obtain ⟨k, ents, hk, rfl, hI⟩ := hrel
    obtain ⟨wo, rfl⟩ : ∃ wo : World, wo = wr := ⟨_, rfl⟩
    by_cases hlt : k < N
    · obtain ⟨⟨v, l⟩, hq⟩ : ∃ q, rows[k]? = some q := ⟨rows[k]'(by rw [HN.out]; exact hlt), List.getElem?_eq_getElem _⟩
      have hb : Bys wo 0 v l := hI.out.row k _ (Nat.le_refl _) hq
      obtain ⟨A, cq, rfl, hcq, hcm, _⟩ := hb.src'
      obtain ⟨n, hn⟩ : ∃ n, l.length = n := ⟨_, rfl⟩
      have hnb : n ≤ 35184372088832 := by have := HL.out k _ hq; simp only at this; omega
      unfold Bys at hb
      rw [hn] at hb hq hcq
      have c0 : wo.cell? ⟨R, k, none⟩ = some (.slice A n cq) := by
        rw [hI.out.box.cell]
        simp [hq]
      have HQ := Lib.hid hq
      have HB := Lib.hid hb
      have q0 : (0 : Int) ≤ (k : Int) := by omega
      have q1 : (k : Int) < (N : Int) := by omega
      clear hb hq
      go_wp2_with fail
      obtain ⟨z, hz⟩ : ∃ z : Int, 1 + (k : Int) % 250 = z := ⟨_, rfl⟩
      have HM : Hid (mkV k = .int .u8 z) := Lib.hid (by unfold mkV; rw [hz])
      simp only [hz]
      clear hz
      obtain ⟨V, hV⟩ : ∃ V, Value.slice A n cq = V := ⟨_, rfl⟩
      have HVo : Hid (∀ b, V.ownBlock = some b → b < wo.heap.size ∧ b ≠ R) := Lib.hid (fun b hb => ⟨by rw [← hV] at hb; exact (HB.out.lt b hb).2, fun e => HO.out.sep k _ HQ.out (by rw [← e]; rw [← hV] at hb; exact hb)⟩)
      have HVV := Lib.hid hV
      have HR2 : Hid (∀ wr : World, Keeps (fun b => V.ownBlock = some b) wo wr → wr.cell? ⟨R, k, none⟩ = some (.slice A n cq)) := Lib.hid (fun wr hK => (World.cell?_of_block (a := ⟨R, k, none⟩) (hK.block R hI.out.box.lt (fun e => (HVo.out R e).2 rfl))).trans c0)
      clear hV c0
      go_loopw [6] (fun j wr => ∃ t : Nat, t ≤ n ∧ j = .int .i64 t ∧ Hid (wr.ownsRow 0 5 1 (.slice A n cq) n (List.replicate t (.int .u8 z) ++ (l.map byC).drop t)) ∧ Hid (Keeps (fun b => V.ownBlock = some b) wo wr)) (fun j _ => n - (intOf j).toNat)
      case atStart => exact ⟨0, Nat.zero_le _, rfl, HB, Lib.hid (Keeps.refl _ _)⟩
      case round =>
        obtain ⟨t, ht, rfl, hown, hK⟩ := hrel
        have c0 := HR2.out _ hK.out
        by_cases htn : t < n
        · obtain ⟨g, cap, hv, _, _⟩ := hown.out.form (by omega)
          simp only [Value.slice.injEq] at hv
          obtain ⟨rfl, _, _⟩ := hv
          have hfz := hown.out.frozenAt t
          obtain ⟨x, hx⟩ : ∃ x, (List.replicate t (Value.int .u8 z) ++ (l.map byC).drop t)[t]? = some x := ⟨_, List.getElem?_eq_getElem (by simp; omega)⟩
          have c1 : wr.cell? ⟨g, t, none⟩ = some x := by rw [hown.out.cellAt t (by omega), hx]
          have HS : Hid ((wr.setCell ⟨g, t, none⟩ (.int .u8 z)).ownsRow 0 5 1 (.slice (some ⟨g, 0, none⟩) n cq) n (List.replicate (t + 1) (.int .u8 z) ++ (l.map byC).drop (t + 1))) := Lib.hid (by
            have h := (hown.out.stored t (.int .u8 z)).1
            have e : (List.replicate t (Value.int .u8 z) ++ (l.map byC).drop t).set t (.int .u8 z) = List.replicate (t + 1) (Value.int .u8 z) ++ (l.map byC).drop (t + 1) := by
              rw [List.set_append_right _ _ (by simp), List.length_replicate, Nat.sub_self, List.replicate_succ', List.append_assoc]
              congr 1
              rw [List.drop_eq_getElem_cons (by simp; omega)]
              rfl
            rw [e] at h
            exact h)
          have HK1 : Hid (Keeps (fun b => V.ownBlock = some b) wo (wr.setCell ⟨g, t, none⟩ (.int .u8 z))) := Lib.hid (hK.out.setCell (p := ⟨g, t, none⟩) (.inl (by rw [← HVV.out]; rfl)) _)
          have p0 : (0 : Int) ≤ (t : Int) := by omega
          have p1 : (t : Int) < (n : Int) := by omega
          clear hx
          go_wp2
          go_roundw
          case rel => exact ⟨t + 1, by omega, by go_num, HS, HK1⟩
          case measure => simp [intOf]; omega
        · obtain rfl : t = n := by omega
          have HM0 : Hid (wr.ownsRow 0 5 1 (.slice A t cq) t (List.replicate t (.int .u8 z))) := Lib.hid (by
            have h := hown.out
            rw [List.drop_of_length_le (by simp; omega), List.append_nil] at h
            exact h)
          clear hown
          obtain ⟨w1, rfl⟩ : ∃ w1 : World, w1 = wr := ⟨_, rfl⟩
          have HMk : Hid (Marks w1 V (.int .u8 z) (fun b => V.ownBlock = some b)) := Lib.hid (by
            have h := Marks.of_own HM0.out (by omega)
            rw [HVV.out] at h
            exact h)
          have p1 : ¬ (t : Int) < (t : Int) := by omega
          go_wp2_with fail
          go_loopw [7, 8] (fun vg j wr => ∃ s : Nat, s ≤ 9 ∧ j = .int .i64 s ∧ Hid (wr.ownsRow 0 5 1 vg (t + s) (List.replicate (t + s) (.int .u8 z))) ∧ Hid (Keeps (fun b => V.ownBlock = some b) wo wr) ∧ Hid (Marks wr V (.int .u8 z) (fun b => V.ownBlock = some b)) ∧ Hid (∀ b, vg.ownBlock = some b → V.ownBlock = some b ∨ wo.heap.size ≤ b)) (fun _ j _ => 9 - (intOf j).toNat)
          case atStart => exact ⟨0, Nat.zero_le _, rfl, HM0, hK, HMk, Lib.hid (fun b hb => .inl (by rw [← HVV.out]; exact hb))⟩
          case round =>
            obtain ⟨s, hs, rfl, hown, hK3, hM3, hg3⟩ := hrel
            by_cases hs9 : s < 9
            · obtain ⟨g', c', w', hrun, hown', hcase⟩ := append_byte (.int .u8 z) rfl hown.out (by omega)
              rw [show List.replicate (t + s) (Value.int .u8 z) ++ [.int .u8 z] = List.replicate (t + s + 1) (.int .u8 z) by rw [List.replicate_succ']] at hown'
              obtain ⟨j1, j2, j3⟩ := grow_step (fun b hb => (HVo.out b hb).1) hK3.out hM3.out ⟨_, _, _, HVV.out.symm, by omega⟩ hg3.out hown' hcase
              have HR := Lib.hid hrun
              have J0 := Lib.hid hown'
              have J1 := Lib.hid j1
              have J2 := Lib.hid j2
              have J3 := Lib.hid j3
              have p0 : (s : Int) < 9 := by omega
              clear hrun hown' hcase j1 j2 j3
              go_wp2_with (at_builtin; refine Lib.wpList_append_run _ rfl _ _ _ _ rfl _ _ rfl rfl _ _ (HR.out _) ?_)
              go_roundw
              case rel => exact ⟨s + 1, by omega, by go_num, J0, J1, J2, J3⟩
              case measure => simp [intOf]; omega
            · obtain rfl : s = 9 := by omega
              have c0 := HR2.out _ hK3.out
              obtain ⟨g7, c7, rfl, _, _⟩ := hown.out.form (by omega)
              have HW : Hid (wr.ownsRow w.heap.size 31 1 u3 (2 * k) ents) := Lib.hid (owns_block hI.out.own (fun b hb => hK3.out.block b (hI.out.own.lt b hb).2 (fun e => by
                have h1 := (hI.out.own.lt b hb).1
                have h2 := HO.out.old k _ HQ.out b (by simp only; rw [HVV.out]; exact e)
                omega)))
              obtain ⟨g', c', w', hrun, hown', hgr, hat⟩ := append_two (.slice (some ⟨g7, 0, none⟩) (t + 9) c7) (.slice A t cq) (own_one hown.out) rfl HW.out (by omega) (Nat.le_trans hI.out.keeps.size hK3.out.size)
              have HI2 : Hid (OInv w w' R rows (k + 1) (.slice (some ⟨g', 0, none⟩) (2 * k + 2) c') (ents ++ [.slice (some ⟨g7, 0, none⟩) (t + 9) c7, .slice A t cq])) := Lib.hid (by
                have hVV := HVV.out
                refine OInv.step (n := t + 9) HO.out hI.out HQ.out ?_ ?_ ?_ (by omega) ?_ hown' hgr hat
                · simp only; rw [hVV]; exact hK3.out
                · simp only; rw [hVV, HM.out]; exact hM3.out
                · rw [HM.out]; exact hown.out
                · simp only; rw [hVV]; exact hg3.out)
              have HR := Lib.hid hrun
              clear hrun hown' hgr hat
              go_wp2_with (at_builtin; refine Lib.wpList_append_run _ rfl _ _ _ _ rfl _ _ rfl rfl _ _ (HR.out _) ?_)
              go_roundw
              case rel => exact ⟨k + 1, _, by omega, by go_num, HI2⟩
              case measure => simp [intOf]; omega
    · obtain rfl : k = N := by omega
      obtain ⟨w5, rfl⟩ : ∃ w5 : World, w5 = wo := ⟨_, rfl⟩
      have HE : Hid (∀ i, i < 2 * k → ∃ A n c, (∃ g, u3.ownBlock = some g ∧ w5.cell? ⟨g, i, none⟩ = some (.slice A n c)) ∧ n ≤ 281474976710656 ∧ ∀ j, j < n → ∃ b, A = some ⟨b, 0, none⟩ ∧ w5.cell? ⟨b, j, none⟩ = some (mkV (i / 2))) := Lib.hid (fun i hi => by
        have hown := hI.out.own
        obtain ⟨g, cap, hv, _, _⟩ := hown.form (by omega)
        subst hv
        have hl := hown.1
        obtain ⟨e, he⟩ : ∃ e, ents[i]? = some e := ⟨_, List.getElem?_eq_getElem (by omega)⟩
        obtain ⟨A, n, c, rfl, h1, h2, h3⟩ := hI.out.ent i e he
        refine ⟨A, n, c, ⟨g, rfl, by rw [hown.cellAt i (by omega), he]⟩, h2, fun j hj => ?_⟩
        obtain ⟨b, e1, _, e3⟩ := h3 j hj
        exact ⟨b, e1, e3⟩)
      have HK := Lib.hid hI.out.keeps
      obtain ⟨aL, cL, hu3, hm3⟩ : ∃ a c, u3 = .slice a (2 * k) c ∧ c ≤ maxLen := by
        rcases hI.out.own.2 with ⟨h1, h2⟩ | ⟨g, cap, cur, h1, _, _, _, h5, _⟩
        · exact ⟨none, 0, by rw [h1, h2], Nat.zero_le _⟩
        · exact ⟨_, _, h1, h5⟩
      subst hu3
      go_wp2_with fail
      go_loopw [9] (fun i wr => ∃ i' : Nat, i' ≤ 2 * k ∧ i = .int .i64 i' ∧ Below w5.heap.size w5 wr) (fun i _ => 2 * k - (intOf i).toNat)
      case atStart => exact ⟨0, Nat.zero_le _, rfl, Below.refl _ _⟩
      case round =>
        obtain ⟨i', hi', rfl, hbel⟩ := hrel
        obtain ⟨w6, rfl⟩ : ∃ w6 : World, w6 = wr := ⟨_, rfl⟩
        by_cases hlt : i' < 2 * k
        · obtain ⟨A, n, c, ⟨g, hg, c0⟩, hn, hj⟩ := HE.out i' hlt
          obtain ⟨g', rfl⟩ : ∃ g', aL = some ⟨g', 0, none⟩ := by
            obtain ⟨g2, cap, hv, _, _⟩ := hI.out.own.form (by omega)
            simp only [Value.slice.injEq] at hv
            exact ⟨g2, hv.1⟩
          obtain rfl : g' = g := by simpa [Value.ownBlock] using hg
          have c1 : w6.cell? ⟨g', i', none⟩ = some (.slice A n c) := (hbel.cell (p := ⟨g', i', none⟩) (block_lt_of_cell c0)).trans c0
          have HJ := Lib.hid hj
          have HB6 := Lib.hid hbel
          have p0 : (0 : Int) ≤ (i' : Int) := by omega
          have p1 : (i' : Int) < 2 * (k : Int) := by omega
          clear hj c0 hbel
          go_wp2_with fail
          go_loopw [10] (fun j wr => ∃ j' : Nat, j' ≤ n ∧ j = .int .i64 j' ∧ Below w6.heap.size w6 wr) (fun j _ => n - (intOf j).toNat)
          case atStart => exact ⟨0, Nat.zero_le _, rfl, Below.refl _ _⟩
          case round =>
            obtain ⟨j', hj', rfl, hbel7⟩ := hrel
            have c2 : wr.cell? ⟨g', i', none⟩ = some (.slice A n c) := (hbel7.cell (p := ⟨g', i', none⟩) (block_lt_of_cell c1)).trans c1
            by_cases hjn : j' < n
            · obtain ⟨b, rfl, hcb⟩ := HJ.out j' hjn
              unfold mkV at hcb
              have c3 : wr.cell? ⟨b, j', none⟩ = some (.int .u8 (1 + (i' : Int) / 2 % 250)) := by
                rw [(HB6.out.trans (hbel7.mono HB6.out.size)).cell (p := ⟨b, j', none⟩) (block_lt_of_cell hcb), hcb]
                simp [Int.natCast_ediv]
              have HB7 := Lib.hid hbel7
              have p2 : (0 : Int) ≤ (j' : Int) := by omega
              have p3 : (j' : Int) < (n : Int) := by omega
              clear hcb hbel7
              go_wp2
              go_roundw
              case rel => exact ⟨j' + 1, by omega, by go_num, HB7.out⟩
              case measure => simp [intOf]; omega
            · obtain rfl : j' = n := by omega
              have HB7 : Hid (Below w5.heap.size w5 wr) := Lib.hid (HB6.out.trans (hbel7.mono HB6.out.size))
              clear hbel7
              go_wp2
              go_roundw
              case rel => exact ⟨i' + 1, by omega, by go_num, HB7.out⟩
              case measure => simp [intOf]; omega
        · obtain rfl : i' = 2 * k := by omega
          have HF : Hid (Keeps (fun b => ∃ q ∈ rows, q.1.ownBlock = some b) w w6) := Lib.hid (HK.out.trans (Keeps.of_below (F := fun _ => False) hbel) (fun i hi => hi.elim))
          clear hbel
          go_wp2
          go_ret
          exact ⟨rfl, HF.out⟩
end Go.Proofs.YtmbacegbcccdjaaDoor
