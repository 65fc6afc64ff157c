/-
  Layer 5: the document's space: Gap.
  Layer 5: the document's space: MapAt, Map, Unmap.
  Layer 5: the document's space: Map, Unmap.
  Layer 5: the document's space: Regions.
  Layer 5: the document's space as a thing that the law owns; Model.
  Conditions: none. (My own text.)
-/
import Derived.Test.YtpenejigebkkmaaGreatRf1
import Derived.Deep.AppendLies
import Derived.Test.YtpenejigebkkmaaGreatSp5
namespace Go.Proofs.YtpenejigebkkmaaGreat
open Go.RowKit Spm
set_option linter.unusedVariables false
set_option linter.unusedSimpArgs false

theorem each_perm {M L : List Rg} (hp : M.Perm L) (h : Ok L) : Each M := fun r hr => h.each r (hp.mem_iff.1 hr)
theorem free_iff {M L : List Rg} (hp : M.Perm L) (h : Ok L) {x n : Int} (hn : 0 < n) : FreeR M x n ↔ 4096 ≤ x ∧ x ≤ 4294967296 - n ∧ meets L x n = false := by
  unfold FreeR
  refine and_congr_right fun _ => and_congr_right fun _ => ?_
  constructor
  · intro h1
    cases hm : meets L x n
    · rfl
    · obtain ⟨r, hr, h2⟩ := (meets_iff h hn).1 hm
      obtain ⟨i, hi⟩ := List.mem_iff_getElem?.1 (hp.mem_iff.2 hr)
      exact absurd h2 (h1 i r hi)
  · intro hm i r hi h2
    have := (meets_iff h hn).2 ⟨r, hp.mem_iff.1 (List.mem_of_getElem? hi), h2⟩
    rw [hm] at this
    cases this
theorem gapGo_cand (n : Int) : ∀ (L : List Rg) (x : Int), gapGo n L x = x ∨ ∃ r ∈ L, gapGo n L x = r.at_ + r.sz
  | [], x => .inl rfl
  | r :: L, x => by
    unfold gapGo
    split
    · exact .inl rfl
    · rcases gapGo_cand n L (max x (r.at_ + r.sz)) with h | ⟨s, hs, h⟩
      · rw [h]
        rcases Int.le_total x (r.at_ + r.sz) with h1 | h1
        · exact .inr ⟨r, by simp, by omega⟩
        · exact .inl (by omega)
      · exact .inr ⟨s, by simp [hs], h⟩

/-- A place that might be the gap: the first one, or behind one of the first k. -/
def Cand (M : List Rg) (k : Nat) (c : Int) : Prop := c = 4096 ∨ ∃ (i : Nat) (r : Rg), i < k ∧ M[i]? = some r ∧ c = r.at_ + r.sz
structure Best (M : List Rg) (n : Int) (k : Nat) (b : Int) : Prop where
  ok : b = 0 ∨ FreeR M b n ∧ Cand M k b
  least : ∀ c, Cand M k c → FreeR M c n → b ≠ 0 ∧ b ≤ c
theorem Best.gap {M L : List Rg} (hp : M.Perm L) (h : Ok L) {size b : Int} (h1 : 1 ≤ size) (h2 : size ≤ 1048576) (hb : Best M (up size) M.length b) : gapS L size = if b = 0 then (0, 3) else (b, 0) := by
  obtain ⟨u1, u2, u3, u4⟩ := up_ge size h1
  have hfi := fun x => free_iff (x := x) (n := up size) hp h (by omega)
  have hbd := gapGo_bound (up size) L 4096 h.each (by omega)
  have hge : ∀ x, FreeR M x (up size) → gapGo (up size) L 4096 ≤ x := fun x hx => by
    obtain ⟨f1, f2, f3⟩ := (hfi x).1 hx
    rcases Int.lt_or_le x (gapGo (up size) L 4096) with hl | hl
    · have := (meets_iff h (x := x) (n := up size) (by omega)).2 (by
        obtain ⟨r, hr, h3, h4⟩ := gapGo_least (up size) L 4096 x f1 hl
        exact ⟨r, hr, h3, h4⟩)
      rw [f3] at this
      cases this
    · exact hl
  unfold gapS
  rw [if_neg (by omega)]
  by_cases hg : 4294967296 - up size < gapGo (up size) L 4096
  · rw [if_pos hg]
    rcases hb.ok with h0 | ⟨h0, _⟩
    · rw [if_pos h0]
    · have := hge b h0
      have := h0.2.1
      omega
  · rw [if_neg hg]
    have hfree : FreeR M (gapGo (up size) L 4096) (up size) := (hfi _).2 ⟨hbd.1, by omega, by
      cases hm : meets L (gapGo (up size) L 4096) (up size)
      · rfl
      · obtain ⟨r, hr, h3, h4⟩ := (meets_iff h (by omega)).1 hm
        rcases gapGo_free (up size) (by omega) L 4096 h.each h.srt r hr with h5 | h5 <;> omega⟩
    have hc : Cand M M.length (gapGo (up size) L 4096) := by
      rcases gapGo_cand (up size) L 4096 with h3 | ⟨r, hr, h3⟩
      · exact .inl h3
      · obtain ⟨i, hi⟩ := List.mem_iff_getElem?.1 (hp.mem_iff.2 hr)
        exact .inr ⟨i, r, (List.getElem?_eq_some_iff.1 hi).1, hi, h3⟩
    obtain ⟨l1, l2⟩ := hb.least _ hc hfree
    rw [if_neg l1]
    rcases hb.ok with h0 | ⟨h0, _⟩
    · exact absurd h0 l1
    · have := hge b h0
      have e : gapGo (up size) L 4096 = b := by omega
      rw [e]
theorem Best.start {M : List Rg} {n : Int} {f : Bool} (hf : f = true ↔ FreeR M 4096 n) : Best M n 0 (if f = true then 4096 else 0) := by
  refine ⟨?_, fun c hc hfr => ?_⟩
  · split
    · rename_i h; exact .inr ⟨hf.1 h, .inl rfl⟩
    · exact .inl rfl
  · rcases hc with rfl | ⟨i, r, hi, _⟩
    · rw [if_pos (hf.2 hfr)]; omega
    · omega
theorem Best.no {M : List Rg} {n b : Int} {k : Nat} {r : Rg} (hb : Best M n k b) (hr : M[k]? = some r) (hf : ¬ FreeR M (r.at_ + r.sz) n ∨ (b ≠ 0 ∧ b ≤ r.at_ + r.sz)) : Best M n (k + 1) b := by
  refine ⟨?_, fun c hc hfr => ?_⟩
  · rcases hb.ok with h | ⟨h, h'⟩
    · exact .inl h
    · refine .inr ⟨h, ?_⟩
      rcases h' with h' | ⟨i, s, h1, h2, h3⟩
      · exact .inl h'
      · exact .inr ⟨i, s, by omega, h2, h3⟩
  · rcases hc with h' | ⟨i, s, h1, h2, h3⟩
    · exact hb.least c (.inl h') hfr
    · rcases Nat.lt_or_ge i k with hl | hl
      · exact hb.least c (.inr ⟨i, s, hl, h2, h3⟩) hfr
      · have : i = k := by omega
        subst this
        rw [hr] at h2; cases h2
        rcases hf with hf | hf
        · rw [h3] at hfr; exact absurd hfr hf
        · rw [h3]; exact hf
theorem Best.yes {M : List Rg} {n b : Int} {k : Nat} {r : Rg} (hb : Best M n k b) (hr : M[k]? = some r) (hf : FreeR M (r.at_ + r.sz) n) (hl : b = 0 ∨ r.at_ + r.sz < b) : Best M n (k + 1) (r.at_ + r.sz) := by
  have h4 := hf.1
  refine ⟨.inr ⟨hf, .inr ⟨k, r, by omega, hr, rfl⟩⟩, fun c hc hfr => ⟨by omega, ?_⟩⟩
  have key : Cand M k c → r.at_ + r.sz ≤ c := fun hc => by
    obtain ⟨l1, l2⟩ := hb.least c hc hfr
    omega
  rcases hc with h' | ⟨i, s, h1, h2, h3⟩
  · exact key (.inl h')
  · rcases Nat.lt_or_ge i k with hlt | hlt
    · exact key (.inr ⟨i, s, hlt, h2, h3⟩)
    · have : i = k := by omega
      subst this
      rw [hr] at h2; cases h2
      omega
theorem Best.bound {M : List Rg} {n b : Int} {k : Nat} (hn : 0 < n) (hb : Best M n k b) : 0 ≤ b ∧ b ≤ 4294967296 := by
  rcases hb.ok with h | ⟨h, _⟩
  · omega
  · have h1 := h.1; have h2 := h.2.1; omega

set_option maxRecDepth 100000 in
set_option maxHeartbeats 4000000 in
theorem rgap_any (a : Nat) (F : Nat → Prop) (M L : List Rg) (hp : M.Perm L) (hL : Ok L) (size : Int) (w : World) (h : RSp w a F M) :
    Calls Tryz.prog 68 #[.pointer (some ⟨a, 0, none⟩), .int .i64 size] w fun e w' => e = .returned (.tuple #[.int .i64 (gapS L size).1, .int .i64 (gapS L size).2]) ∧ Below w.heap.size w w' := by
  by_cases hs : size < 1 ∨ 1048576 < size
  · rw [gap_bad hs]
    have C1 := Lib.hid (fun w => sized_no size hs w)
    clear h hL hp hs
    go_enter Tryz.func68, Tryz.ntmps68
    go_wp2_with fail
    refine (C1.out _).mono ?_
    rintro e w1 ⟨rfl, rfl⟩
    go_wp2
    go_ret2
    exact ⟨rfl, Below.refl _ _⟩
  have hs1 : 1 ≤ size := by omega
  have hs2 : size ≤ 1048576 := by omega
  have C1 := Lib.hid (fun w => sized_yes size hs1 hs2 w)
  have C2 := Lib.hid (fun w => rup_any size hs1 hs2 w)
  obtain ⟨u1, u2, u3, u4⟩ := up_ge size hs1
  have u5 := up_le size hs1 hs2
  have hlen : M.length ≤ 67108864 := by have := hL.len; rw [hp.length_eq]; omega
  have C3 := Lib.hid (fun (w1 : World) (x : Int) (hx : I64 x) (hb : Below w.heap.size w w1) => free_any a F M (each_perm hp hL) hlen x (up size) (by omega) u5 hx w1 (h.stay hb))
  have HG := Lib.hid (fun b => Best.gap (size := size) (b := b) hp hL hs1 hs2)
  have HE := Lib.hid (each_perm hp hL)
  generalize up size = n at *
  obtain ⟨gv, hgv⟩ : ∃ gv, gapS L size = gv := ⟨_, rfl⟩
  rw [hgv] at HG ⊢
  clear hgv hp hL hs hs1 hs2 u1 u2 u4
  obtain ⟨v, Q, hs, rfl, hF⟩ := h
  obtain ⟨A, cap, rfl, hc0, hcap, hm, hrow⟩ := hs.cells
  have HR := Lib.hid hrow; clear hrow
  have hbox := hs.box.lt
  have HLN : Hid ((Q.map (·.1)).length = Q.length) := Lib.hid (by simp)
  clear hs hF hlen
  unfold maxLen at hm
  go_enter Tryz.func68, Tryz.ntmps68
  go_wp2_with fail
  refine (C1.out _).mono ?_
  rintro e w1 ⟨rfl, rfl⟩
  go_wp2_with fail
  refine (C2.out _).mono ?_
  rintro e w1 ⟨rfl, rfl⟩
  go_wp2_with fail
  refine (C3.out _ 4096 (by unfold I64; omega) (Below.refl _ _)).mono ?_
  rintro e w2 ⟨f, rfl, hf, h2⟩
  have HST := Lib.hid (Best.start hf)
  have H2 := Lib.hid h2
  clear hf h2
  cases f
  all_goals
    simp only [Bool.false_eq_true, if_false, if_true, reduceCtorEq] at HST
    go_wp2_with fail
    go_loopw [7, 8] (fun v i wr => ∃ (k : Nat) (b : Int), k ≤ Q.length ∧ i = .int .i64 k ∧ v = .int .i64 b ∧ Hid (Best (Q.map (·.1)) n k b) ∧ Below w.heap.size w wr) (fun _ i _ => Q.length - (intOf i).toNat)
    case atStart => exact ⟨0, _, Nat.zero_le _, rfl, rfl, HST, H2.out⟩
    case round =>
      obtain ⟨k, b, hk, rfl, rfl, hB, hbel⟩ := hrel
      have b0 : wr.cell? ⟨a, 0, none⟩ = some (.slice A Q.length cap) := (hbel.cell (p := ⟨a, 0, none⟩) hbox).trans hc0
      have hbd := hB.out.bound (by omega)
      obtain ⟨bd0, bd1⟩ := hbd
      by_cases hlt : k < Q.length
      · obtain ⟨q, hq⟩ : ∃ q, Q[k]? = some q := ⟨Q[k], List.getElem?_eq_getElem hlt⟩
        obtain ⟨g, rfl, hg, hcell⟩ := HR.out k q hq
        have hx : (Q.map (·.1))[k]? = some q.1 := by rw [List.getElem?_map, hq]; rfl
        have HX := Lib.hid hx; clear hx
        have HQ := Lib.hid hq; clear hq
        obtain ⟨⟨qa, qs, qp, qb⟩, qk, qc⟩ := q
        have c0 : wr.cell? ⟨g, k * 4, none⟩ = some (.int .i64 qa) := (hbel.cell (p := ⟨g, k * 4, none⟩) hg).trans (hcell 0 _ rfl)
        have c1 : wr.cell? ⟨g, k * 4 + 1, none⟩ = some (.int .i64 qs) := (hbel.cell (p := ⟨g, k * 4 + 1, none⟩) hg).trans (hcell 1 _ rfl)
        have c2 : wr.cell? ⟨g, k * 4 + 2, none⟩ = some (.int .i64 qp) := (hbel.cell (p := ⟨g, k * 4 + 2, none⟩) hg).trans (hcell 2 _ rfl)
        have c3 : wr.cell? ⟨g, k * 4 + 3, none⟩ = some (.slice (some ⟨qk, 0, none⟩) qb.length qc) := (hbel.cell (p := ⟨g, k * 4 + 3, none⟩) hg).trans (hcell 3 _ rfl)
        clear hcell
        have ho := HE.out _ (List.mem_of_getElem? HX.out)
        have o1 := ho.lo; have o2 := ho.hi; have o3 := ho.slo
        simp only at o1 o2 o3
        clear ho
        have HBL := Lib.hid hbel; clear hbel
        have k1 : (k : Int) < (Q.length : Int) := by omega
        have k0 : (0 : Int) ≤ (k : Int) := by omega
        have hw1 : IntKind.i64.wrap (qa + qs) = qa + qs := IntWalk.i64_in _ (by omega)
        go_wp2_with fail
        go_quiet (fail)
        clear hw1
        go_wp2_with fail
        refine (C3.out _ (qa + qs) ⟨by omega, by omega⟩ (below_drewN HBL.out _)).mono ?_
        rintro e w4 ⟨f, rfl, hf, h4⟩
        have H4 : Hid (Below w.heap.size w w4) := Lib.hid ((below_drewN HBL.out _).trans (h4.mono HBL.out.size))
        have HF4 := Lib.hid hf
        clear hf h4
        cases f
        · have HB2 := Lib.hid (hB.out.no HX.out (.inl (fun h => by have := HF4.out.2 h; cases this)))
          go_wp2
          go_roundw
          case rel => exact ⟨k + 1, b, by omega, by go_num, rfl, HB2, H4.out⟩
          case measure => simp [intOf]; omega
        · by_cases hb0 : b = 0
          · have HB2 := Lib.hid (hB.out.yes HX.out (HF4.out.1 rfl) (.inl hb0))
            subst hb0
            go_wp2
            go_roundw
            case rel => exact ⟨k + 1, qa + qs, by omega, by go_num, rfl, HB2, H4.out⟩
            case measure => simp [intOf]; omega
          · have eb : (b == 0) = false := beq_eq_false_iff_ne.2 hb0
            by_cases hbl : qa + qs < b
            · have HB2 := Lib.hid (hB.out.yes HX.out (HF4.out.1 rfl) (.inr hbl))
              go_wp2
              go_roundw
              case rel => exact ⟨k + 1, qa + qs, by omega, by go_num, rfl, HB2, H4.out⟩
              case measure => simp [intOf]; omega
            · have HB2 := Lib.hid (hB.out.no HX.out (.inr ⟨hb0, by simp only; omega⟩))
              go_wp2
              go_roundw
              case rel => exact ⟨k + 1, b, by omega, by go_num, rfl, HB2, H4.out⟩
              case measure => simp [intOf]; omega
      · have HGV := Lib.hid (HG.out b (by
          have h1 := hB.out
          have h2 := HLN.out
          have h3 : k = (Q.map (·.1)).length := by omega
          rwa [h3] at h1))
        by_cases hb0 : b = 0
        · subst hb0
          rw [if_pos rfl] at HGV
          go_wp2
          go_ret2
          rw [HGV.out]
          exact ⟨rfl, hbel⟩
        · rw [if_neg hb0] at HGV
          have eb : (b == 0) = false := beq_eq_false_iff_ne.2 hb0
          go_wp2
          go_ret2
          rw [HGV.out]
          exact ⟨rfl, hbel⟩
end Go.Proofs.YtpenejigebkkmaaGreat

namespace Go.Proofs.YtpenejigebkkmaaGreat
open Go.RowKit Spm
set_option linter.unusedVariables false
set_option linter.unusedSimpArgs false

/-- The document's space, behind an act: the same regions as the list's, in whatever order. -/
def RSpL (w : World) (a : Nat) (F : Nat → Prop) (L : List Rg) : Prop := ∃ M, RSp w a F M ∧ M.Perm L
def SetsL (a : Nat) (F : Nat → Prop) (r : List Rg × Int) (w : World) (e : Ending) (w' : World) : Prop := e = .returned (.int .i64 r.2) ∧ RSpL w' a (fun k => F k ∨ w.heap.size ≤ k) r.1 ∧ Keeps F w w'
theorem SetsL.same {a : Nat} {F : Nat → Prop} {M L : List Rg} {err : Int} {w w' : World} (h : RSp w a F M) (hp : M.Perm L) (hb : Below w.heap.size w w') : SetsL a F (L, err) w (.returned (.int .i64 err)) w' :=
  ⟨rfl, ⟨M, (h.stay hb).mono (fun k hk _ => .inl hk), hp⟩, Keeps.of_below hb⟩
theorem SetsL.after {a : Nat} {F : Nat → Prop} {r : List Rg × Int} {w w1 w' : World} {e : Ending} (hb : Below w.heap.size w w1) (h : SetsL a F r w1 e w') : SetsL a F r w e w' :=
  ⟨h.1, by obtain ⟨M, h1, h2⟩ := h.2.1; exact ⟨M, h1.mono (fun k hk _ => by have := hb.size; rcases hk with hk | hk; exact .inl hk; exact .inr (by omega)), h2⟩, (Keeps.of_below hb).trans' h.2.2⟩
set_option maxRecDepth 100000 in
theorem part_info : (Tryz.prog.info? 113).map (fun i => (i.zero, i.size, i.bytes)) = some (some (.agg #[.int .i64 0, .int .i64 0, .int .i64 0, .slice none 0 0]), 4, 48) := by kernel_rfl
theorem mapAt_perm {L : List Rg} {x n p : Int} (hr : right n p = 0) (hb : ¬ atBad x n) (hm : meets L x (up n) = false) : (mapAtS L x n p).1.Perm (⟨x, up n, p, zeros (up n)⟩ :: L) ∧ (mapAtS L x n p).2 = 0 := by
  rw [mapAtS_ok hr hb hm]
  refine ⟨?_, rfl⟩
  refine List.perm_middle.trans ?_
  rw [List.take_append_drop]

set_option maxRecDepth 100000 in
set_option maxHeartbeats 4000000 in
theorem rmapAt_any (a : Nat) (F : Nat → Prop) (M L : List Rg) (hp : M.Perm L) (hL : Ok L) (x size p : Int) (hx : I64 x) (w : World) (h : RSp w a F M) :
    Calls Tryz.prog 69 #[.pointer (some ⟨a, 0, none⟩), .int .i64 x, .int .i64 size, .int .i64 p] w (SetsL a F (mapAtS L x size p) w) := by
  have HS := Lib.hid (fun (r : Int) (w1 : World) (hb : Below w.heap.size w w1) => SetsL.same (err := r) h hp hb)
  obtain ⟨hx0, hx1⟩ := hx
  by_cases hs : size < 1 ∨ 1048576 < size
  · rw [mapAtS_r (by unfold right; rw [if_pos (by omega)]; decide)]
    have C1 := Lib.hid (fun w => sized_no size hs w)
    clear h hL hp hs
    go_enter Tryz.func69, Tryz.ntmps69
    go_wp2_with fail
    refine (C1.out _).mono ?_
    rintro e w1 ⟨rfl, rfl⟩
    go_wp2
    go_ret
    exact HS.out _ _ (Below.refl _ _)
  have hs1 : 1 ≤ size := by omega
  have hs2 : size ≤ 1048576 := by omega
  have C1 := Lib.hid (fun w => sized_yes size hs1 hs2 w)
  have C2 := Lib.hid (fun w => rup_any size hs1 hs2 w)
  by_cases hpm : p < 0 ∨ 7 < p
  · rw [mapAtS_r (by unfold right; rw [if_pos (by omega)]; decide)]
    have C3 := Lib.hid (fun w => perm_no p hpm w)
    clear h hL hp hs hpm
    go_enter Tryz.func69, Tryz.ntmps69
    go_wp2_with fail
    refine (C1.out _).mono ?_
    rintro e w1 ⟨rfl, rfl⟩
    go_wp2_with fail
    refine (C3.out _).mono ?_
    rintro e w1 ⟨rfl, rfl⟩
    go_wp2
    go_ret
    exact HS.out _ _ (Below.refl _ _)
  have C3 := Lib.hid (fun w => perm_yes p (by omega) (by omega) w)
  have hr : right size p = 0 := by unfold right; rw [if_neg (by omega)]
  obtain ⟨u1, u2, u3, u4⟩ := up_ge size hs1
  have u5 := up_le size hs1 hs2
  by_cases hlo : x < 4096
  · rw [mapAtS_b hr (by unfold atBad; omega)]
    have hlo2 : x < 4096 := hlo
    clear h hL hp hs hpm hr u1 u2 u3 u4 u5
    rcases Int.lt_or_le x 0 with hneg | hneg
    · go_enter Tryz.func69, Tryz.ntmps69
      go_wp2_with fail
      refine (C1.out _).mono ?_
      rintro e w1 ⟨rfl, rfl⟩
      go_wp2_with fail
      refine (C3.out _).mono ?_
      rintro e w1 ⟨rfl, rfl⟩
      go_wp2
      all_goals
        go_ret
        exact HS.out _ _ (Below.refl _ _)
    · go_enter Tryz.func69, Tryz.ntmps69
      go_wp2_with fail
      refine (C1.out _).mono ?_
      rintro e w1 ⟨rfl, rfl⟩
      go_wp2_with fail
      refine (C3.out _).mono ?_
      rintro e w1 ⟨rfl, rfl⟩
      go_wp2
      all_goals
        go_ret
        exact HS.out _ _ (Below.refl _ _)
  have hx2 : 0 ≤ x := by omega
  by_cases hal : x % 64 = 0
  · by_cases hhi : 4294967296 - up size < x
    · rw [mapAtS_b hr (by unfold atBad; omega)]
      generalize up size = U at *
      clear h hL hp hs hpm hr u1 u2 u4
      go_enter Tryz.func69, Tryz.ntmps69
      go_wp2_with fail
      refine (C1.out _).mono ?_
      rintro e w1 ⟨rfl, rfl⟩
      go_wp2_with fail
      refine (C3.out _).mono ?_
      rintro e w1 ⟨rfl, rfl⟩
      go_wp2_with fail
      refine (C2.out _).mono ?_
      rintro e w1 ⟨rfl, rfl⟩
      go_wp2
      go_ret
      exact HS.out _ _ (Below.refl _ _)
    · have hlen : M.length ≤ 67108864 := by have := hL.len; rw [hp.length_eq]; omega
      have hbad : ¬ atBad x size := by unfold atBad; omega
      have C4 := Lib.hid (free_any a F M (each_perm hp hL) hlen x (up size) (by omega) u5 ⟨by omega, by omega⟩ w h)
      have HFI := Lib.hid (free_iff (x := x) (n := up size) hp hL (by omega))
      cases hm : meets L x (up size)
      · obtain ⟨mp, me⟩ := mapAt_perm hr hbad hm
        obtain ⟨R, hR⟩ : ∃ R, mapAtS L x size p = R := ⟨_, rfl⟩
        rw [hR] at mp me ⊢
        have HMP := Lib.hid (fun (M2 : List Rg) (h2 : M2.Perm (⟨x, up size, p, zeros (up size)⟩ :: M)) => (h2.trans ((hp.cons _).trans mp.symm) : M2.Perm R.1))
        have HME := Lib.hid me
        have HF1 : Hid (FreeR M x (up size)) := Lib.hid (HFI.out.2 ⟨by omega, by omega, hm⟩)
        obtain ⟨u, hu⟩ : ∃ u : Nat, up size = u := ⟨(up size).toNat, by omega⟩
        rw [hu] at C2 C4 HMP HF1 HFI u5 hhi
        have hu1 : u ≤ 1048576 := by omega
        have hu2 : 0 < u := by omega
        clear mp me hR hm hbad hr u1 u2 u3 u4 hpm hs hL hp hu HS
        obtain ⟨v, Q, hs, rfl, hF⟩ := h
        have hbox := hs.box.lt
        have hc0 : w.cell? ⟨a, 0, none⟩ = some v := by have := hs.box.cell 0; simpa using this
        have HSP := Lib.hid hs
        have HFF := Lib.hid hF
        have hql : Q.length ≤ 67108864 := by simpa using hlen
        clear hlen
        obtain ⟨i0, hi, hz0, hz1, hz2⟩ := info_parts part_info
        have HI := Lib.hid (And.intro hi (And.intro hz0 (And.intro hz1 hz2))); clear hi hz0 hz1 hz2
        clear hs hF
        go_enter Tryz.func69, Tryz.ntmps69
        go_wp2_with fail
        refine (C1.out _).mono ?_
        rintro e w1 ⟨rfl, rfl⟩
        go_wp2_with fail
        refine (C3.out _).mono ?_
        rintro e w1 ⟨rfl, rfl⟩
        go_wp2_with fail
        refine (C2.out _).mono ?_
        rintro e w1 ⟨rfl, rfl⟩
        go_wp2_with fail
        refine (C2.out _).mono ?_
        rintro e w1 ⟨rfl, rfl⟩
        go_wp2_with fail
        refine (C4.out).mono ?_
        rintro e w1 ⟨f, rfl, hf, h1⟩
        obtain rfl : f = true := hf.2 HF1.out
        have H1 := Lib.hid h1
        have s0 : w1.cell? ⟨a, 0, none⟩ = some v := (h1.cell (p := ⟨a, 0, none⟩) hbox).trans hc0
        have HS1 := Lib.hid (HSP.out.keep (w' := w1) (fun k hk => h1.block k (HSP.out.lt k hk)))
        have hmk : ∀ W : World, (Instr.makeSlice 38 (.int .i64 (u : Int)) (.int .i64 (u : Int))).run Tryz.prog W = .ok (.slice (some ⟨W.heap.size, 0, none⟩) u u) (W.alloc (.cells (madeCells #[.int .u8 0] u) 5)) := run_make_row' 38 5 (.int .u8 0) 1 Tryz.underlying38 cloneB_info rfl .i64 .i64 u (by omega) (by omega)
        clear hf h1
        obtain ⟨Z, hZ⟩ : ∃ Z, madeCells #[.int .u8 0] u = Z := ⟨_, rfl⟩
        rw [hZ] at hmk
        have HZ := Lib.hid hZ.symm; clear hZ
        have HG := Lib.hid (And.intro HS1.out HFF.out)
        have hwsz : w.heap.size ≤ w1.heap.size := H1.out.size
        have hl : (zeros (u : Int)).length = u := by unfold zeros; simp
        have HL := Lib.hid hl; clear hl
        have hrc : rgC ((⟨x, u, p, zeros u⟩, w1.heap.size, u) : RowP) = [.int .i64 x, .int .i64 u, .int .i64 p, .slice (some ⟨w1.heap.size, 0, none⟩) u u] := by unfold rgC; simp only [HL.out]
        have HRC := Lib.hid hrc; clear hrc
        have HB4 : Hid (∀ (o1 o2 : Obj) (W w4 : World), W.heap = ((w1.alloc o1).alloc o2).heap → W.grownBy w4 v.ownBlock → w4.cell? ⟨a, 0, none⟩ = some v ∧ w4.frozen? ⟨a, 0, none⟩ = false) := Lib.hid (fun o1 o2 W w4 hW hg => by
          have hb0 : Blk W a 37 #[v] := (congrArg (fun h => h[a]?) hW).trans ((HS1.out.box.alloc o1).alloc o2)
          have hb4 := hb0.keeps (Keeps.of_grown hg) (fun e => nodup_av HS1.out.nd e rfl)
          exact ⟨by have := hb4.cell 0; simpa using this, hb4.free 0⟩)
        have HFIN : Hid (∀ (o2 : Obj) (W w4 : World) (g4 c4 : Nat), (W.heap = ((w1.alloc (.cells Z 5)).alloc o2).heap ∧ W.os = w1.os ∧ W.tape = w1.tape ∧ W.output = w1.output) →
            w4.ownsRow 0 113 4 (.slice (some ⟨g4, 0, none⟩) (Q.length + 1) c4) (Q.length + 1) (Q.flatMap rgC ++ [.int .i64 x, .int .i64 u, .int .i64 p, .slice (some ⟨w1.heap.size, 0, none⟩) u u]) →
            W.grownBy w4 v.ownBlock → (v.ownBlock = some g4 ∨ g4 = w1.heap.size + 2) →
            SetsL a F R w (.returned (.int .i64 0)) (w4.setCell ⟨a, 0, none⟩ (.slice (some ⟨g4, 0, none⟩) (Q.length + 1) c4))) := Lib.hid (fun o2 W w4 g4 c4 hWW hown4 hgrow hat4 => by
          obtain ⟨hW, hW1, hW2, hW3⟩ := hWW
          have hWk : ∀ b, b < w1.heap.size → W.heap[b]? = w1.heap[b]? := fun b hb => by rw [hW, Below.heap_alloc _ _ _ (by simp; omega), Below.heap_alloc _ _ _ hb]
          have hWs : W.heap.size = w1.heap.size + 2 := by rw [hW]; simp
          have hWz : W.heap[w1.heap.size]? = some (.cells Z 5 (0, 0)) := by rw [hW, Below.heap_alloc _ _ _ (by simp)]; exact heap_alloc_new w1 _
          have iW := HS1.out.keep (w' := W) (fun b hb => hWk b (HS1.out.lt b hb))
          have hZl : Z.toList = (zeros (u : Int)).map byC := by
            rw [HZ.out]
            rw [toList_madeCells_one]
            unfold zeros
            rw [List.map_replicate, Int.toNat_natCast]
            rfl
          have iB : Bys W 0 (byV ((⟨x, u, p, zeros u⟩, w1.heap.size, u) : RowP)) (zeros u) := by
            refine ⟨by simp, .inr ⟨w1.heap.size, u, Z, rfl, Nat.zero_le _, hWz, by simp only [HL.out]; omega, by unfold maxLen; omega, ?_, ?_⟩⟩
            · rw [Nat.mul_one, ← Array.length_toList, hZl, List.length_map, HL.out]
            · rw [Nat.mul_one, hZl]; exact List.take_of_length_le (by simp)
          have ifr : w1.heap.size ∉ foot a v Q := fun hmm => by have := HS1.out.lt _ hmm; omega
          obtain ⟨j1, j2⟩ := iW.push iB ifr (by rw [HRC.out]; exact hown4) rfl hat4 (by omega) (Keeps.of_grown hgrow)
          have hb1 : Keeps F w W := ⟨hW1.trans H1.out.os, hW2.trans H1.out.tape, hW3.trans H1.out.output, by omega, fun b hb _ => (hWk b (by omega)).trans (H1.out.block b hb)⟩
          have hb2 : Keeps F W w4 := (Keeps.of_grown hgrow).mono (fun b hb => HFF.out b (foot_v hb))
          refine ⟨by rw [HME.out], ⟨_, ⟨_, _, j1, rfl, fun b hb => ?_⟩, HMP.out _ ?_⟩, (hb1.trans' hb2).setCell (.inl (HFF.out a foot_a)) _⟩
          · rcases j2 b hb with h1 | h1 | h1
            · exact .inl (HFF.out b h1)
            · simp only at h1; exact .inr (by omega)
            · exact .inr (by omega)
          · rw [List.map_append]
            exact List.perm_append_comm)
        have sal : ∀ (o : Obj), (w1.alloc o).cell? ⟨a, 0, none⟩ = some v := fun o => Lib.cell?_alloc_some _ s0
        have sal2 : ∀ (o o' : Obj), ((w1.alloc o).alloc o').cell? ⟨a, 0, none⟩ = some v := fun o o' => Lib.cell?_alloc_some _ (sal o)
        have HRO := Lib.hid HS1.out.row
        have HNB : Hid (∀ (o1 : Obj) (cs : Array Value), ((w1.alloc o1).alloc (.cells cs 113)).heap[w1.heap.size + 1]? = some (.cells cs 113 (0, 0))) := Lib.hid (fun o1 cs => by
          have := heap_alloc_new (w1.alloc o1) (.cells cs 113)
          simpa using this)
        clear HG HS1 HSP HFF HZ H1 HL HRC
        go_wp2_with fail
        go_region_law (refine step_append_lies _ (by rfl) _ _ 35 (by rfl) 0 113 i0 (.agg #[.int .i64 0, .int .i64 0, .int .i64 0, .slice none 0 0]) 4 48 Tryz.underlying35 HI.out.1 HI.out.2.1 HI.out.2.2.1 HI.out.2.2.2 rfl (by decide) v Q.length (Q.flatMap rgC) (by simp [Act.eval, Act.put]) ((HRO.out.alloc _).alloc _) ⟨w1.heap.size + 1, 0, none⟩ 1 1 [.int .i64 x, .int .i64 u, .int .i64 p, .slice (some ⟨w1.heap.size, 0, none⟩) u u] (by simp [Act.eval, Act.put]) rfl (World.news_of_block (HNB.out _ _)) (by intro u hu; simp at hu; rcases hu with rfl | rfl | rfl | rfl <;> rfl) (by decide) (by unfold maxLen; omega) (by omega) (Nat.zero_le _) (w1.heap.size + 2) (by simp) ?_; intro g4 c4 w4 hown4 hgrow hat4 hlt4; obtain ⟨s4, f4⟩ := HB4.out _ _ _ _ (by rfl) hgrow)
        all_goals
          have RF := Lib.hid (HFIN.out _ _ _ _ _ (by exact ⟨rfl, rfl, rfl, rfl⟩) hown4 hgrow hat4)
          clear hown4 hgrow hat4 hlt4 s4 f4
          go_wp2
          go_ret
          exact RF.out
      · rw [mapAtS_m hr hbad hm]
        have HF1 : Hid (¬ FreeR M x (up size)) := Lib.hid (fun h => by have := (HFI.out.1 h).2.2; rw [hm] at this; cases this)
        generalize up size = U at *
        clear h hL hp hs hpm hr u1 u2 u4 hm
        go_enter Tryz.func69, Tryz.ntmps69
        go_wp2_with fail
        refine (C1.out _).mono ?_
        rintro e w1 ⟨rfl, rfl⟩
        go_wp2_with fail
        refine (C3.out _).mono ?_
        rintro e w1 ⟨rfl, rfl⟩
        go_wp2_with fail
        refine (C2.out _).mono ?_
        rintro e w1 ⟨rfl, rfl⟩
        go_wp2_with fail
        refine (C2.out _).mono ?_
        rintro e w1 ⟨rfl, rfl⟩
        go_wp2_with fail
        refine (C4.out).mono ?_
        rintro e w1 ⟨f, rfl, hf, h1⟩
        obtain rfl : f = false := by cases f; rfl; exact absurd (hf.1 rfl) HF1.out
        have H1 := Lib.hid h1; clear hf h1
        go_wp2
        go_ret
        exact HS.out _ _ H1.out
  · rw [mapAtS_b hr (by unfold atBad; omega)]
    have eal : (x % 64 == 0) = false := beq_eq_false_iff_ne.2 hal
    clear h hL hp hs hpm hr u1 u2 u3 u4 u5
    go_enter Tryz.func69, Tryz.ntmps69
    go_wp2_with fail
    refine (C1.out _).mono ?_
    rintro e w1 ⟨rfl, rfl⟩
    go_wp2_with fail
    refine (C3.out _).mono ?_
    rintro e w1 ⟨rfl, rfl⟩
    go_wp2
    go_ret
    exact HS.out _ _ (Below.refl _ _)
end Go.Proofs.YtpenejigebkkmaaGreat

namespace Go.Proofs.YtpenejigebkkmaaGreat
open Go.RowKit Spm
set_option linter.unusedVariables false
set_option linter.unusedSimpArgs false

def Sets2L (a : Nat) (F : Nat → Prop) (r : List Rg × Int × Int) (w : World) (e : Ending) (w' : World) : Prop := e = .returned (.tuple #[.int .i64 r.2.1, .int .i64 r.2.2]) ∧ RSpL w' a (fun k => F k ∨ w.heap.size ≤ k) r.1 ∧ Keeps F w w'
theorem Sets2L.same {a : Nat} {F : Nat → Prop} {M L : List Rg} {n err : Int} {w w' : World} (h : RSp w a F M) (hp : M.Perm L) (hb : Below w.heap.size w w') : Sets2L a F (L, n, err) w (.returned (.tuple #[.int .i64 n, .int .i64 err])) w' :=
  ⟨rfl, ⟨M, (h.stay hb).mono (fun k hk _ => .inl hk), hp⟩, Keeps.of_below hb⟩

set_option maxRecDepth 100000 in
set_option maxHeartbeats 2000000 in
theorem rmap_any (a : Nat) (F : Nat → Prop) (M L : List Rg) (hp : M.Perm L) (hL : Ok L) (size p : Int) (w : World) (h : RSp w a F M) :
    Calls Tryz.prog 55 #[.pointer (some ⟨a, 0, none⟩), .int .i64 size, .int .i64 p] w (Sets2L a F (mapS L size p) w) := by
  have HS := Lib.hid (fun (n r : Int) (w1 : World) (hb : Below w.heap.size w w1) => Sets2L.same (n := n) (err := r) h hp hb)
  by_cases hs : size < 1 ∨ 1048576 < size
  · rw [show mapS L size p = (L, 0, 1) from by unfold mapS; rw [if_pos (by unfold right; rw [if_pos (by omega)]; decide)]]
    have C1 := Lib.hid (fun w => sized_no size hs w)
    clear h hL hp hs
    go_enter Tryz.func55, Tryz.ntmps55
    go_wp2_with fail
    refine (C1.out _).mono ?_
    rintro e w1 ⟨rfl, rfl⟩
    go_wp2
    go_ret2
    exact HS.out _ _ _ (Below.refl _ _)
  have C1 := Lib.hid (fun w => sized_yes size (by omega) (by omega) w)
  by_cases hpm : p < 0 ∨ 7 < p
  · rw [show mapS L size p = (L, 0, 1) from by unfold mapS; rw [if_pos (by unfold right; rw [if_pos (by omega)]; decide)]]
    have C3 := Lib.hid (fun w => perm_no p hpm w)
    clear h hL hp hs hpm
    go_enter Tryz.func55, Tryz.ntmps55
    go_wp2_with fail
    refine (C1.out _).mono ?_
    rintro e w1 ⟨rfl, rfl⟩
    go_wp2_with fail
    refine (C3.out _).mono ?_
    rintro e w1 ⟨rfl, rfl⟩
    go_wp2
    go_ret2
    exact HS.out _ _ _ (Below.refl _ _)
  have C3 := Lib.hid (fun w => perm_yes p (by omega) (by omega) w)
  have C4 := Lib.hid (rgap_any a F M L hp hL size w h)
  have hr : right size p = 0 := by unfold right; rw [if_neg (by omega)]
  by_cases hg : (gapS L size).2 = 0
  · have e : mapS L size p = ((mapAtS L (gapS L size).1 size p).1, (gapS L size).1, (mapAtS L (gapS L size).1 size p).2) := by unfold mapS; rw [if_neg (by simp [hr]), if_neg (by simp [hg])]
    rw [e]
    rw [hg] at C4
    obtain ⟨_, _, g3, _, g5, _⟩ := gap_ok hL hg
    have hu := up_ge size (by omega)
    have C5 := Lib.hid (fun (w1 : World) (hb : Below w.heap.size w w1) => (rmapAt_any a F M L hp hL (gapS L size).1 size p ⟨by omega, by omega⟩ w1 (h.stay hb)).mono fun e w' h' => SetsL.after hb h')
    generalize (gapS L size).1 = g at *
    generalize mapAtS L g size p = r at C5 ⊢
    clear e hr hg hL h hp hs hpm g3 g5 hu
    go_enter Tryz.func55, Tryz.ntmps55
    go_wp2_with fail
    refine (C1.out _).mono ?_
    rintro e w1 ⟨rfl, rfl⟩
    go_wp2_with fail
    refine (C3.out _).mono ?_
    rintro e w1 ⟨rfl, rfl⟩
    go_wp2_with fail
    refine (C4.out).mono ?_
    rintro e w1 ⟨rfl, h1⟩
    have H1 := Lib.hid h1; clear h1
    go_wp2_with fail
    refine (C5.out _ H1.out).mono ?_
    rintro e w2 ⟨rfl, h2, h3⟩
    have H2 := Lib.hid h2; clear h2
    have H3 := Lib.hid h3; clear h3
    go_wp2
    go_ret2
    exact ⟨rfl, H2.out, H3.out⟩
  · have e : mapS L size p = (L, 0, (gapS L size).2) := by unfold mapS; rw [if_neg (by simp [hr]), if_pos hg]
    rw [e]
    have eg : ((gapS L size).2 == 0) = false := beq_eq_false_iff_ne.2 hg
    generalize gapS L size = g at *
    obtain ⟨g1, g2⟩ := g
    simp only at *
    clear e hr hg hL h hp hs hpm
    go_enter Tryz.func55, Tryz.ntmps55
    go_wp2_with fail
    refine (C1.out _).mono ?_
    rintro e w1 ⟨rfl, rfl⟩
    go_wp2_with fail
    refine (C3.out _).mono ?_
    rintro e w1 ⟨rfl, rfl⟩
    go_wp2_with fail
    refine (C4.out).mono ?_
    rintro e w1 ⟨rfl, h1⟩
    have H1 := Lib.hid h1; clear h1
    go_wp2
    go_ret2
    exact HS.out _ _ _ H1.out

/-- One region less; its slice is a new one. -/
theorem Spc.erase {ts tr : TypeId} {w w1 : World} {a : Nat} {v v' : Value} {Q : List RowP} {k : Nat} (h : Spc ts tr w a v Q) (hk : k < Q.length) (hb : Below w.heap.size w w1)
    (hrow : w1.ownsRow w.heap.size tr 4 v' (Q.length - 1) ((Q.eraseIdx k).flatMap rgC)) :
    Spc ts tr (w1.setCell ⟨a, 0, none⟩ v') a v' (Q.eraseIdx k) ∧ ∀ x ∈ foot a v' (Q.eraseIdx k), x ∈ foot a v Q ∨ w.heap.size ≤ x := by
  have hal := h.box.lt
  have hlen : (Q.eraseIdx k).length = Q.length - 1 := List.length_eraseIdx_of_lt hk
  have hsub : ∀ x ∈ Q.eraseIdx k, x ∈ Q := fun x hx => List.mem_of_mem_eraseIdx hx
  have hvb : ∀ g, v'.ownBlock = some g → w.heap.size ≤ g := fun g hg => (hrow.lt g hg).1
  have hm : ∀ x ∈ (Q.eraseIdx k).map (fun q : RowP => q.2.1), x ∈ foot a v Q := fun x hx => by
    obtain ⟨q, hq, rfl⟩ := List.mem_map.1 hx
    exact foot_q (hsub q hq)
  have hnd := h.nd
  unfold foot at hnd
  obtain ⟨n1, n2⟩ := List.nodup_cons.1 hnd
  obtain ⟨n3, n4, n5⟩ := List.nodup_append.1 n2
  refine ⟨⟨?_, ?_, ?_, ?_⟩, ?_⟩
  · have hba : Blk w1 a ts #[v] := (hb.block a hal).trans h.box
    have := Blk.set hba 0 v'
    simpa using this
  · rw [hlen]
    exact owns_block (owns_mono hrow (Nat.zero_le _)) (fun g hg => Below.heap_setCell _ _ _ _ (by have := hvb g hg; simp only; omega))
  · intro x hx
    refine owns_block (h.each x (hsub x hx)) (fun b hbb => ?_)
    simp [byV, Value.ownBlock] at hbb
    subst hbb
    rw [Below.heap_setCell _ _ _ _ (fun e => nodup_a h.nd (hsub x hx) e.symm)]
    exact hb.block _ (h.lt _ (foot_q (hsub x hx)))
  · unfold foot
    rw [List.nodup_cons]
    refine ⟨fun hx => ?_, ?_⟩
    · rcases List.mem_append.1 hx with hx | hx
      · have := hvb a (by simpa using hx); omega
      · obtain ⟨q, hq, e⟩ := List.mem_map.1 hx
        exact nodup_a h.nd (hsub q hq) e.symm
    · rw [List.nodup_append]
      refine ⟨by cases v'.ownBlock <;> simp, n4.sublist ((List.eraseIdx_sublist Q k).map _), fun x hx y hy e => ?_⟩
      have hxg := hvb x (by simpa using hx)
      subst e
      have := h.lt _ (hm _ hy)
      omega
  · intro x hx
    unfold foot at hx
    rcases List.mem_cons.1 hx with rfl | hx
    · exact .inl foot_a
    · rcases List.mem_append.1 hx with hx | hx
      · exact .inr (hvb x (by simpa using hx))
      · exact .inl (hm x hx)

theorem own_count {w : World} {base : Nat} {e : TypeId} {size n m : Nat} {v : Value} {xs : List Value} (h : n = m) (ho : w.ownsRow base e size v n xs) : w.ownsRow base e size v m xs := h ▸ ho
theorem perm_erase {α : Type} : ∀ (l : List α) (i : Nat) (h : i < l.length), l.Perm (l[i] :: l.eraseIdx i)
  | x :: l, 0, _ => by simp
  | x :: l, i + 1, h => by
    have ih := perm_erase l i (by simpa using h)
    simp only [List.getElem_cons_succ, List.eraseIdx_cons_succ]
    exact (ih.cons x).trans (List.Perm.swap _ _ _)
theorem rmap_erase {α β : Type} (f : α → β) : ∀ (l : List α) (k : Nat), (l.map f).eraseIdx k = (l.eraseIdx k).map f
  | [], k => by simp
  | x :: l, 0 => by simp
  | x :: l, k + 1 => by simp [rmap_erase f l k]
theorem erase_perm {M L : List Rg} (hp : M.Perm L) (hL : Ok L) {x : Int} : (findS M x < M.length ↔ findS L x < L.length) ∧ (findS M x < M.length → (M.eraseIdx (findS M x)).Perm (L.eraseIdx (findS L x))) := by
  have hone : ∀ N : List Rg, findS N x < N.length ↔ ∃ r ∈ N, r.at_ = x := fun N => by
    constructor
    · intro h
      have h2 := List.findIdx_getElem (p := fun r : Rg => r.at_ == x) (xs := N) (w := h)
      exact ⟨_, List.getElem_mem h, beq_iff_eq.1 h2⟩
    · rintro ⟨r, hr, he⟩
      exact List.findIdx_lt_length_of_exists ⟨r, hr, by simpa using he⟩
  have hiff : findS M x < M.length ↔ findS L x < L.length := by
    rw [hone, hone]
    exact ⟨fun ⟨r, hr, he⟩ => ⟨r, hp.mem_iff.1 hr, he⟩, fun ⟨r, hr, he⟩ => ⟨r, hp.mem_iff.2 hr, he⟩⟩
  refine ⟨hiff, fun hm => ?_⟩
  have hl := hiff.1 hm
  have em := beq_iff_eq.1 (List.findIdx_getElem (p := fun r : Rg => r.at_ == x) (xs := M) (w := hm))
  have el := beq_iff_eq.1 (List.findIdx_getElem (p := fun r : Rg => r.at_ == x) (xs := L) (w := hl))
  have hsame : M[findS M x] = L[findS L x] := by
    have h1 : M[findS M x] ∈ L := hp.mem_iff.1 (List.getElem_mem hm)
    obtain ⟨i, hi⟩ := List.mem_iff_getElem?.1 h1
    have h2 := findS_eq hL hi em
    have h3 := (List.getElem?_eq_some_iff.1 hi).2
    rw [← h3]
    congr 1
    exact h2.symm
  have p1 : M.Perm (M[findS M x] :: M.eraseIdx (findS M x)) := perm_erase _ _ hm
  have p2 : L.Perm (L[findS L x] :: L.eraseIdx (findS L x)) := perm_erase _ _ hl
  rw [hsame] at p1
  exact (List.perm_cons _).1 (p1.symm.trans (hp.trans p2))

set_option maxRecDepth 100000 in
set_option maxHeartbeats 4000000 in
theorem runmap_any (a : Nat) (F : Nat → Prop) (M L : List Rg) (hp : M.Perm L) (hL : Ok L) (x : Int) (w : World) (h : RSp w a F M) :
    Calls Tryz.prog 53 #[.pointer (some ⟨a, 0, none⟩), .int .i64 x] w (SetsL a F (unmapS L x) w) := by
  have C1 := Lib.hid (begins_any a F M x w h)
  obtain ⟨e1, e2⟩ := erase_perm (x := x) hp hL
  by_cases hf : findS M x < M.length
  · have e : unmapS L x = (L.eraseIdx (findS L x), 0) := by unfold unmapS; rw [if_pos (e1.1 hf)]
    rw [e]
    have HP := Lib.hid (e2 hf)
    generalize L.eraseIdx (findS L x) = L2 at HP ⊢
    have e3 : begI M x = findS M x := by unfold begI; rw [if_pos hf]
    rw [e3] at C1
    generalize findS M x = k at *
    have hqn : M.length ≤ 67108864 := by have := hL.len; rw [hp.length_eq]; omega
    clear e e1 e2 e3 hp hL
    obtain ⟨v, Q, hs, rfl, hF⟩ := h
    obtain ⟨A, cap, rfl, hc0, hcap, hm, hrow⟩ := hs.cells
    have HR := Lib.hid hrow; clear hrow
    have hbox := hs.box.lt
    rw [List.length_map] at hf hqn
    obtain ⟨q, hq⟩ : ∃ q, Q[k]? = some q := ⟨Q[k], List.getElem?_eq_getElem hf⟩
    obtain ⟨g, rfl, hg, _⟩ := HR.out k q hq
    have HSP := Lib.hid hs
    have HFF := Lib.hid hF
    have hrows : ∀ (w1 : World), Below w.heap.size w w1 → ∀ j u, (Q.flatMap rgC)[j]? = some u → w1.cell? ⟨g, j, none⟩ = some u := fun w1 hb j u hj => by
      have h1 := hs.row.cells (g := g) rfl j u hj
      rw [Addr.add_lit, Nat.zero_add] at h1
      exact (hb.cell (p := ⟨g, j, none⟩) hg).trans h1
    have HRW := Lib.hid hrows
    have hxl := rows_len Q
    have HXL := Lib.hid hxl
    have HER : Hid ((Q.flatMap rgC).take (k * 4) ++ (Q.flatMap rgC).drop ((k + 1) * 4) = (Q.eraseIdx k).flatMap rgC) := Lib.hid (erase_rows Q k)
    have HFIN : Hid (∀ (w1 : World) (v' : Value), Below w.heap.size w w1 → w1.ownsRow w.heap.size 113 4 v' (Q.length - 1) ((Q.eraseIdx k).flatMap rgC) → SetsL a F (L2, 0) w (.returned (.int .i64 0)) (w1.setCell ⟨a, 0, none⟩ v')) := Lib.hid (fun w1 v' hb hrow => by
      obtain ⟨s1, s2⟩ := HSP.out.erase hf hb hrow
      have em : (Q.eraseIdx k).map (fun q : RowP => q.1) = (Q.map (·.1)).eraseIdx k := (rmap_erase _ Q k).symm
      exact ⟨rfl, ⟨_, ⟨_, _, s1, rfl, fun y hy => by rcases s2 y hy with h1 | h1; exact .inl (HFF.out y h1); exact .inr h1⟩, by rw [em]; exact HP.out⟩, (Keeps.of_below hb).setCell (.inl (HFF.out a foot_a)) _⟩)
    have HFR : Hid (w.frozen? ⟨a, 0, none⟩ = false) := Lib.hid (hs.box.free 0)
    have H1c := Lib.hid (rows_one Q)
    obtain ⟨i0, hi, hz0, hz1, hz2⟩ := info_parts part_info
    have HI := Lib.hid (And.intro hi (And.intro hz0 (And.intro hz1 hz2))); clear hi hz0 hz1 hz2
    unfold maxLen at hm
    generalize Q.flatMap rgC = X at *
    obtain ⟨n, hn⟩ : ∃ n, Q.length = n := ⟨_, rfl⟩
    rw [hn] at hf hc0 hcap HXL HFIN hqn
    have k1 : (0 : Int) ≤ (k : Int) := by omega
    have k2 : (k : Int) ≤ (n : Int) := by omega
    have k3 : k ≤ n := by omega
    have k4 : k ≤ cap := by omega
    have hw1 : IntKind.i64.wrap ((k : Int) + 1) = (k : Int) + 1 := by rw [IntKind.wrap_i64]; omega
    have htn : ((k : Int) + 1).toNat = k + 1 := by omega
    have k5 : (k : Int) + 1 ≤ (n : Int) := by omega
    have k6 : k + 1 ≤ n := by omega
    have k7 : k + 1 ≤ cap := by omega
    clear hs hF hq hrows hxl hn HR
    go_enter Tryz.func53, Tryz.ntmps53
    go_wp2_with fail
    refine (C1.out).mono ?_
    rintro e w1 ⟨rfl, h1⟩
    have b0 : w1.cell? ⟨a, 0, none⟩ = some (.slice (some ⟨g, 0, none⟩) n cap) := (h1.cell (p := ⟨a, 0, none⟩) hbox).trans hc0
    have H1 := Lib.hid h1; clear h1
    by_cases hcc : cap = k + 1
    · subst hcc
      obtain rfl : n = k + 1 := by omega
      go_wp2_with (at_builtin; refine wpList_append_own _ rfl _ _ 35 rfl w.heap.size 113 i0 (.agg #[.int .i64 0, .int .i64 0, .int .i64 0, .slice none 0 0]) 4 48 Tryz.underlying35 HI.out.1 HI.out.2.1 HI.out.2.2.1 HI.out.2.2.2 rfl (by decide) _ 0 [] rfl (World.ownsRow_nil _ _ _ _) ⟨g, 0, none⟩ k (k + 1) (X.take (k * 4)) rfl ?a1 ?a2 ?a3 ?a4 ?a5 ?a6 ?_)
      case a1 => rw [List.length_take, HXL.out]; omega
      case a2 =>
        intro j u hj
        rw [List.getElem?_take] at hj
        split at hj
        · rw [Addr.add_lit, Nat.zero_add]; exact HRW.out _ H1.out j u hj
        · cases hj
      case a3 => exact fun u hu => H1c.out u (List.mem_of_mem_take hu)
      case a4 => unfold maxLen; omega
      case a5 => omega
      case a6 => exact H1.out.size
      intro v1 w2 hown1 hgrow1 _
      have H2 : Hid (Below w.heap.size w w2) := Lib.hid (H1.out.grown hgrow1 H1.out.size (by intro j hj; simp [Value.ownBlock] at hj))
      have b2 : w2.cell? ⟨a, 0, none⟩ = some (.slice (some ⟨g, 0, none⟩) (k + 1) (k + 1)) := (H2.out.cell (p := ⟨a, 0, none⟩) hbox).trans hc0
      have f2 : w2.frozen? ⟨a, 0, none⟩ = false := (H2.out.frozen (p := ⟨a, 0, none⟩) hbox).trans HFR.out
      have HO1 : Hid (w2.ownsRow w.heap.size 113 4 v1 k (X.take (k * 4))) := Lib.hid (by simpa using hown1)
      clear hown1 hgrow1 b0
      go_wp2_with (at_builtin; refine wpList_append_own _ rfl _ _ 35 rfl w.heap.size 113 i0 (.agg #[.int .i64 0, .int .i64 0, .int .i64 0, .slice none 0 0]) 4 48 Tryz.underlying35 HI.out.1 HI.out.2.1 HI.out.2.2.1 HI.out.2.2.2 rfl (by decide) v1 k _ rfl HO1.out ⟨g, 0, none⟩ 0 0 (X.drop ((k + 1) * 4)) rfl ?d1 ?d2 ?d3 ?d4 ?d5 ?d6 ?_)
      case d1 => rw [List.length_drop, HXL.out]; omega
      case d2 =>
        intro j u hj
        have hjl := (List.getElem?_eq_some_iff.1 hj).1
        rw [List.length_drop, HXL.out] at hjl
        rw [List.getElem?_drop] at hj
        first
          | (exfalso; omega)
          | (rw [Addr.add_lit]; exact HRW.out _ H2.out _ u hj)
      case d3 => exact fun u hu => H1c.out u (List.mem_of_mem_drop hu)
      case d4 => unfold maxLen; omega
      case d5 => omega
      case d6 => exact H2.out.size
      intro v2 w3 hown2 hgrow2 _
      obtain ⟨A2, c2, rfl⟩ := owns_shape hown2
      have hlt2 := HO1.out.lt
      have H3 : Hid (Below w.heap.size w w3) := Lib.hid (H2.out.grown hgrow2 H2.out.size (fun j hj => (hlt2 j hj).1))
      have b3 : w3.cell? ⟨a, 0, none⟩ = some (.slice (some ⟨g, 0, none⟩) (k + 1) (k + 1)) := (H3.out.cell (p := ⟨a, 0, none⟩) hbox).trans hc0
      have f3 : w3.frozen? ⟨a, 0, none⟩ = false := (H3.out.frozen (p := ⟨a, 0, none⟩) hbox).trans HFR.out
      have RF := Lib.hid (HFIN.out w3 _ H3.out (by
        rw [← HER.out]
        have e : k + 0 = (k + 1) - 1 := by omega
        first | exact own_count e hown2 | (simpa using hown2)))
      clear hown2 hgrow2 hlt2 b2 f2
      go_wp2
      go_ret
      exact RF.out
    · have q1 : ¬ cap = k + 1 := hcc
      have q2 : ¬ k + 1 = cap := fun h => hcc h.symm
      go_wp2_with (at_builtin; refine wpList_append_own _ rfl _ _ 35 rfl w.heap.size 113 i0 (.agg #[.int .i64 0, .int .i64 0, .int .i64 0, .slice none 0 0]) 4 48 Tryz.underlying35 HI.out.1 HI.out.2.1 HI.out.2.2.1 HI.out.2.2.2 rfl (by decide) _ 0 [] rfl (World.ownsRow_nil _ _ _ _) ⟨g, 0, none⟩ k cap (X.take (k * 4)) rfl ?a1 ?a2 ?a3 ?a4 ?a5 ?a6 ?_)
      case a1 => rw [List.length_take, HXL.out]; omega
      case a2 =>
        intro j u hj
        rw [List.getElem?_take] at hj
        split at hj
        · rw [Addr.add_lit, Nat.zero_add]; exact HRW.out _ H1.out j u hj
        · cases hj
      case a3 => exact fun u hu => H1c.out u (List.mem_of_mem_take hu)
      case a4 => unfold maxLen; omega
      case a5 => omega
      case a6 => exact H1.out.size
      intro v1 w2 hown1 hgrow1 _
      have H2 : Hid (Below w.heap.size w w2) := Lib.hid (H1.out.grown hgrow1 H1.out.size (by intro j hj; simp [Value.ownBlock] at hj))
      have b2 : w2.cell? ⟨a, 0, none⟩ = some (.slice (some ⟨g, 0, none⟩) n cap) := (H2.out.cell (p := ⟨a, 0, none⟩) hbox).trans hc0
      have f2 : w2.frozen? ⟨a, 0, none⟩ = false := (H2.out.frozen (p := ⟨a, 0, none⟩) hbox).trans HFR.out
      have HO1 : Hid (w2.ownsRow w.heap.size 113 4 v1 k (X.take (k * 4))) := Lib.hid (by simpa using hown1)
      clear hown1 hgrow1 b0
      go_wp2_with (at_builtin; refine wpList_append_own _ rfl _ _ 35 rfl w.heap.size 113 i0 (.agg #[.int .i64 0, .int .i64 0, .int .i64 0, .slice none 0 0]) 4 48 Tryz.underlying35 HI.out.1 HI.out.2.1 HI.out.2.2.1 HI.out.2.2.2 rfl (by decide) v1 k _ rfl HO1.out ⟨g, (k + 1) * 4, none⟩ (n - (k + 1)) (cap - (k + 1)) (X.drop ((k + 1) * 4)) rfl ?d1 ?d2 ?d3 ?d4 ?d5 ?d6 ?_)
      case d1 => rw [List.length_drop, HXL.out]; omega
      case d2 =>
        intro j u hj
        have hjl := (List.getElem?_eq_some_iff.1 hj).1
        rw [List.length_drop, HXL.out] at hjl
        rw [List.getElem?_drop] at hj
        first
          | (exfalso; omega)
          | (rw [Addr.add_lit]; exact HRW.out _ H2.out _ u hj)
      case d3 => exact fun u hu => H1c.out u (List.mem_of_mem_drop hu)
      case d4 => unfold maxLen; omega
      case d5 => omega
      case d6 => exact H2.out.size
      intro v2 w3 hown2 hgrow2 _
      obtain ⟨A2, c2, rfl⟩ := owns_shape hown2
      have hlt2 := HO1.out.lt
      have H3 : Hid (Below w.heap.size w w3) := Lib.hid (H2.out.grown hgrow2 H2.out.size (fun j hj => (hlt2 j hj).1))
      have b3 : w3.cell? ⟨a, 0, none⟩ = some (.slice (some ⟨g, 0, none⟩) n cap) := (H3.out.cell (p := ⟨a, 0, none⟩) hbox).trans hc0
      have f3 : w3.frozen? ⟨a, 0, none⟩ = false := (H3.out.frozen (p := ⟨a, 0, none⟩) hbox).trans HFR.out
      have RF := Lib.hid (HFIN.out w3 _ H3.out (by
        rw [← HER.out]
        have e : k + (n - (k + 1)) = n - 1 := by omega
        first | exact own_count e hown2 | (simpa using hown2)))
      clear hown2 hgrow2 hlt2 b2 f2
      go_wp2
      go_ret
      exact RF.out
  · have e : unmapS L x = (L, 50) := by unfold unmapS; rw [if_neg (fun h => hf (e1.2 h))]
    rw [e]
    have e3 : begI M x = -1 := by unfold begI; rw [if_neg hf]
    rw [e3] at C1
    have HS := Lib.hid (fun (w1 : World) (hb : Below w.heap.size w w1) => SetsL.same (err := 50) h hp hb)
    clear h hp hL e e1 e2 e3 hf
    go_enter Tryz.func53, Tryz.ntmps53
    go_wp2_with fail
    refine (C1.out).mono ?_
    rintro e w1 ⟨rfl, h1⟩
    have H1 := Lib.hid h1; clear h1
    go_wp2
    go_ret
    exact HS.out _ H1.out
end Go.Proofs.YtpenejigebkkmaaGreat

namespace Go.Proofs.YtpenejigebkkmaaGreat
open Go.RowKit Spm
set_option linter.unusedVariables false
set_option linter.unusedSimpArgs false

/-- The address behind which the next region is looked for. -/
def lastOf (L : List Rg) (j : Nat) : Int := if j = 0 then -1 else (L.getD (j - 1) default).at_
/-- The least of the first k that lies behind an address, as far as there is one. -/
structure Least (M : List Rg) (last : Int) (k : Nat) (o : Option Rg) : Prop where
  of : ∀ r, o = some r → last < r.at_ ∧ ∃ i, i < k ∧ M[i]? = some r
  le : ∀ (i : Nat) (r' : Rg), i < k → M[i]? = some r' → last < r'.at_ → ∃ r, o = some r ∧ r.at_ ≤ r'.at_
theorem Least.start (M : List Rg) (last : Int) : Least M last 0 none := ⟨(fun r h => by cases h), fun i r' h => by omega⟩
theorem Least.no {M : List Rg} {last : Int} {k : Nat} {o : Option Rg} {r : Rg} (h : Least M last k o) (hr : M[k]? = some r) (hn : ¬ last < r.at_ ∨ ∃ b, o = some b ∧ b.at_ ≤ r.at_) : Least M last (k + 1) o :=
  ⟨fun x hx => by obtain ⟨h1, i, h2, h3⟩ := h.of x hx; exact ⟨h1, i, by omega, h3⟩, fun i r' hi hr' hl => by
    rcases Nat.lt_or_ge i k with h1 | h1
    · exact h.le i r' h1 hr' hl
    · have : i = k := by omega
      subst this
      rw [hr] at hr'; cases hr'
      rcases hn with hn | hn
      · exact absurd hl hn
      · exact hn⟩
theorem Least.yes {M : List Rg} {last : Int} {k : Nat} {o : Option Rg} {r : Rg} (h : Least M last k o) (hr : M[k]? = some r) (hl : last < r.at_) (hn : ∀ b, o = some b → r.at_ ≤ b.at_) : Least M last (k + 1) (some r) :=
  ⟨fun x hx => by cases hx; exact ⟨hl, k, by omega, hr⟩, fun i r' hi hr' hl' => by
    rcases Nat.lt_or_ge i k with h1 | h1
    · obtain ⟨b, hb, hle⟩ := h.le i r' h1 hr' hl'
      exact ⟨r, rfl, Int.le_trans (hn b hb) hle⟩
    · have : i = k := by omega
      subst this
      rw [hr] at hr'; cases hr'
      exact ⟨r, rfl, Int.le_refl _⟩⟩
theorem Least.done {M L : List Rg} (hp : M.Perm L) (hL : Ok L) {j : Nat} (hj : j < L.length) {o : Option Rg} (h : Least M (lastOf L j) M.length o) : o = L[j]? := by
  have hmono : ∀ (i i' : Nat) (r r' : Rg), i < i' → L[i]? = some r → L[i']? = some r' → r.at_ < r'.at_ := fun i i' r r' hlt h1 h2 => by
    have := pw_get hL.srt h1 h2 hlt
    have hs := (hL.each r (List.mem_of_getElem? h1)).slo
    unfold Apart at this; omega
  have hx : L[j]? = some L[j] := List.getElem?_eq_getElem hj
  have hlast : lastOf L j < (L[j]).at_ := by
    unfold lastOf
    split
    · have := (hL.each _ (List.getElem_mem hj)).lo; omega
    · have hy : L[j - 1]? = some (L[j - 1]'(by omega)) := List.getElem?_eq_getElem _
      rw [List.getD_eq_getElem?_getD, hy]
      exact hmono (j - 1) j _ _ (by omega) hy hx
  obtain ⟨i, hi⟩ := List.mem_iff_getElem?.1 (hp.mem_iff.2 (List.getElem_mem hj))
  obtain ⟨r, rfl, hle⟩ := h.le i _ (List.getElem?_eq_some_iff.1 hi).1 hi hlast
  obtain ⟨hlr, i', _, hi'⟩ := h.of r rfl
  obtain ⟨m, hm⟩ := List.mem_iff_getElem?.1 (hp.mem_iff.1 (List.mem_of_getElem? hi'))
  have hmj : m = j := by
    rcases Nat.lt_trichotomy m j with h1 | h1 | h1
    · exfalso
      unfold lastOf at hlr
      rw [if_neg (by omega)] at hlr
      have hy : L[j - 1]? = some (L[j - 1]'(by omega)) := List.getElem?_eq_getElem _
      rw [List.getD_eq_getElem?_getD, hy] at hlr
      simp only [Option.getD_some] at hlr
      rcases Nat.lt_or_ge m (j - 1) with h2 | h2
      · have := hmono m (j - 1) _ _ h2 hm hy; omega
      · have : m = j - 1 := by omega
        subst this
        rw [hy] at hm
        have e := Option.some.inj hm
        rw [e] at hlr
        omega
    · exact h1
    · exfalso
      have := hmono j m _ _ h1 hx hm
      omega
  rw [← hmj, hm]
def cells3 (o : Option Rg) : Array Value := match o with
  | none => #[.int .i64 (-1), .int .i64 0, .int .i64 0]
  | some r => #[.int .i64 r.at_, .int .i64 r.sz, .int .i64 r.pm]

set_option maxRecDepth 100000 in
set_option maxHeartbeats 8000000 in
theorem rregions_any (a : Nat) (F : Nat → Prop) (M L : List Rg) (hp : M.Perm L) (hL : Ok L) (w : World) (h : RSp w a F M) : Calls Tryz.prog 38 #[.pointer (some ⟨a, 0, none⟩)] w fun e w' => ∃ v', e = .returned v' ∧ Regs w' w.heap.size v' L ∧ Below w.heap.size w w' := by
  have HDONE := Lib.hid (fun (j : Nat) (o : Option Rg) (hj : j < L.length) (h : Least M (lastOf L j) M.length o) => Least.done hp hL hj h)
  have HEACH := Lib.hid (each_perm hp hL)
  have hln : L.length ≤ 67108864 := by have := hL.len; omega
  have hpl := hp.length_eq
  have HOKL := Lib.hid hL
  clear hp hL
  obtain ⟨v, Q, hs, rfl, hF⟩ := h
  obtain ⟨A, cap, rfl, hc0, hcap, hm, hrow⟩ := hs.cells
  have HR := Lib.hid hrow; clear hrow
  have hbox := hs.box.lt
  rw [List.length_map] at hpl
  have HPL := Lib.hid hpl; clear hpl
  have hqn : Q.length ≤ 67108864 := by have := HPL.out; omega
  clear hs hF
  unfold maxLen at hm
  obtain ⟨i0, hi, hz0, hz1, hz2⟩ := info_parts regs_info
  have HI := Lib.hid (And.intro hi (And.intro hz0 (And.intro hz1 hz2))); clear hi hz0 hz1 hz2
  go_enter Tryz.func38, Tryz.ntmps38
  go_wp2
  go_loopw [3] (fun v wr => ∃ (j : Nat) (A' : Option Addr) (c' : Nat), j ≤ Q.length ∧ v = .slice A' j c' ∧ Hid (wr.ownsRow w.heap.size 72 3 v j ((L.take j).flatMap rg3)) ∧ Below w.heap.size w wr) (fun v _ => Q.length - (match v with | .slice _ n _ => n | _ => 0))
  case atStart => exact ⟨0, none, 0, Nat.zero_le _, rfl, Lib.hid (World.ownsRow_nil _ _ _ _), Below.refl _ _⟩
  case round =>
    obtain ⟨j, A', c', hj, rfl, hown, hbel⟩ := hrel
    have b0 : wr.cell? ⟨a, 0, none⟩ = some (.slice A Q.length cap) := (hbel.cell (p := ⟨a, 0, none⟩) hbox).trans hc0
    by_cases hlt : j < Q.length
    · have hjL : j < L.length := by have := HPL.out; omega
      have hwsz : w.heap.size ≤ wr.heap.size := hbel.size
      have HBEL := Lib.hid hbel; clear hbel
      obtain ⟨r, hr⟩ : ∃ r, L[j]? = some r := ⟨L[j], List.getElem?_eq_getElem hjL⟩
      have HRJ := Lib.hid hr; clear hr
      have hlst : ∃ last, lastOf L j = last ∧ (0 < j → ∃ g0 : Nat, A' = some ⟨g0, 0, none⟩ ∧ wr.cell? ⟨g0, (j - 1) * 3, none⟩ = some (.int .i64 last)) ∧ (j = 0 → last = -1) := by
        refine ⟨_, rfl, fun h0 => ?_, fun h0 => by unfold lastOf; rw [if_pos h0]⟩
        rcases hown.out.2 with ⟨_, hn⟩ | ⟨g0, cap0, cur, hv, _⟩
        · omega
        · simp only [Value.slice.injEq, true_and] at hv
          obtain ⟨rfl, rfl⟩ := hv
          refine ⟨g0, rfl, ?_⟩
          have hy : L[j - 1]? = some (L[j - 1]'(by omega)) := List.getElem?_eq_getElem _
          have hg : ((L.take j).flatMap rg3)[(j - 1) * 3 + 0]? = some (.int .i64 (L[j - 1]'(by omega)).at_) :=
            flat_get (n := 3) (cells := rg3) (fun _ => rfl) (L.take j) (j - 1) (L[j - 1]'(by omega)) (by rw [List.getElem?_take_of_lt (by omega)]; exact hy) 0 _ rfl
          have hc := hown.out.cells (g := g0) rfl _ _ hg
          rw [Addr.add_lit, Nat.zero_add, Nat.add_zero] at hc
          unfold lastOf
          rw [if_neg (by omega), List.getD_eq_getElem?_getD, hy]
          exact hc
      obtain ⟨last, hl1, hl2, hl3⟩ := hlst
      have HD := Lib.hid (fun (o : Option Rg) (h : Least (Q.map (·.1)) last (Q.map (·.1)).length o) => HDONE.out j o hjL (by rw [hl1]; exact h))
      clear hl1
      by_cases h0 : j = 0
      · subst h0
        obtain rfl : last = -1 := hl3 rfl
        clear hl2 hl3
        have HD2 := HD
        go_wp2_with fail
        obtain ⟨wo, rfl⟩ : ∃ wo : World, wo = wr := ⟨_, rfl⟩
        go_loopw [6] (fun i wr => ∃ (k : Nat) (o : Option Rg), k ≤ Q.length ∧ i = .int .i64 k ∧ Hid (Least (Q.map (·.1)) (-1) k o) ∧ Hid (Blk wr wo.heap.size 72 (cells3 o)) ∧ Below wo.heap.size wo wr) (fun i _ => Q.length - (intOf i).toNat)
        case atStart => exact ⟨0, none, Nat.zero_le _, rfl, Lib.hid (Least.start _ _), Lib.hid (Blk.new _ _ _), (Below.refl _ _).alloc (Nat.le_refl _) _⟩
        case round =>
          obtain ⟨k, o, hk, rfl, hLe, hBk, hbel2⟩ := hrel
          have hbel : Below w.heap.size w wr := HBEL.out.trans (hbel2.mono HBEL.out.size)
          have b0 : wr.cell? ⟨a, 0, none⟩ = some (.slice A Q.length cap) := (hbel.cell (p := ⟨a, 0, none⟩) hbox).trans hc0
          by_cases hltk : k < Q.length
          · obtain ⟨q, hq⟩ : ∃ q, Q[k]? = some q := ⟨Q[k], List.getElem?_eq_getElem hltk⟩
            obtain ⟨g, rfl, hg, hcell⟩ := HR.out k q hq
            have hx : (Q.map (·.1))[k]? = some q.1 := by rw [List.getElem?_map, hq]; rfl
            have HX := Lib.hid hx; clear hx
            have HQ := Lib.hid hq; clear hq
            obtain ⟨⟨qa, qs, qp, qb⟩, qk, qc⟩ := q
            have c0 : wr.cell? ⟨g, k * 4, none⟩ = some (.int .i64 qa) := (hbel.cell (p := ⟨g, k * 4, none⟩) hg).trans (hcell 0 _ rfl)
            have c1 : wr.cell? ⟨g, k * 4 + 1, none⟩ = some (.int .i64 qs) := (hbel.cell (p := ⟨g, k * 4 + 1, none⟩) hg).trans (hcell 1 _ rfl)
            have c2 : wr.cell? ⟨g, k * 4 + 2, none⟩ = some (.int .i64 qp) := (hbel.cell (p := ⟨g, k * 4 + 2, none⟩) hg).trans (hcell 2 _ rfl)
            have c3 : wr.cell? ⟨g, k * 4 + 3, none⟩ = some (.slice (some ⟨qk, 0, none⟩) qb.length qc) := (hbel.cell (p := ⟨g, k * 4 + 3, none⟩) hg).trans (hcell 3 _ rfl)
            clear hcell
            have ho := HEACH.out _ (List.mem_of_getElem? HX.out)
            have o1 := ho.lo; have o2 := ho.hi; have o3 := ho.slo
            simp only at o1 o2 o3
            clear ho
            have HB2_ := Lib.hid hbel2
            have hbl := hBk.out.lt
            clear hbel hbel2
            by_cases t1 : (-1) < qa
            · cases o with
              | none =>
                have e0 : wr.cell? ⟨wo.heap.size, 0, none⟩ = some (.int .i64 (-1)) := hBk.out.cell 0
                have e1 : wr.cell? ⟨wo.heap.size, 1, none⟩ = some (.int .i64 0) := hBk.out.cell 1
                have e2 : wr.cell? ⟨wo.heap.size, 2, none⟩ = some (.int .i64 0) := hBk.out.cell 2
                have f0 : wr.frozen? ⟨wo.heap.size, 0, none⟩ = false := hBk.out.free 0
                have f1 : wr.frozen? ⟨wo.heap.size, 1, none⟩ = false := hBk.out.free 1
                have f2 : wr.frozen? ⟨wo.heap.size, 2, none⟩ = false := hBk.out.free 2
                have d0 : ∀ o' : Obj, (wr.alloc o').cell? ⟨wo.heap.size, 0, none⟩ = some (.int .i64 (-1)) := fun o' => Lib.cell?_alloc_some _ e0
                have d1 : ∀ o' : Obj, (wr.alloc o').cell? ⟨wo.heap.size, 1, none⟩ = some (.int .i64 0) := fun o' => Lib.cell?_alloc_some _ e1
                have d2 : ∀ o' : Obj, (wr.alloc o').cell? ⟨wo.heap.size, 2, none⟩ = some (.int .i64 0) := fun o' => Lib.cell?_alloc_some _ e2
                have m0 : ∀ o' : Obj, (wr.alloc o').frozen? ⟨wo.heap.size, 0, none⟩ = false := fun o' => (hBk.out.alloc o').free 0
                have m1 : ∀ o' : Obj, (wr.alloc o').frozen? ⟨wo.heap.size, 1, none⟩ = false := fun o' => (hBk.out.alloc o').free 1
                have m2 : ∀ o' : Obj, (wr.alloc o').frozen? ⟨wo.heap.size, 2, none⟩ = false := fun o' => (hBk.out.alloc o').free 2
                have HL2 := Lib.hid (hLe.out.yes HX.out (by simp only; omega) (fun b hb => by cases hb))
                have HB2 : Hid (∀ W2 : World, W2.heap = ((((wr.setCell ⟨wo.heap.size, 0, none⟩ (.int .i64 qa)).setCell ⟨wo.heap.size, 1, none⟩ (.int .i64 qs)).setCell ⟨wo.heap.size, 2, none⟩ (.int .i64 qp)).alloc (.cells #[.int .i64 qa, .int .i64 qs, .int .i64 qp] 72)).heap → Blk W2 wo.heap.size 72 (cells3 (some ⟨qa, qs, qp, qb⟩))) := Lib.hid (fun W2 hW2 => (congrArg (fun h => h[wo.heap.size]?) hW2).trans ((((hBk.out.set 0 (.int .i64 qa)).set 1 (.int .i64 qs)).set 2 (.int .i64 qp)).alloc (.cells #[.int .i64 qa, .int .i64 qs, .int .i64 qp] 72)))
                have HB3 : Hid (Below wo.heap.size wo ((((wr.setCell ⟨wo.heap.size, 0, none⟩ (.int .i64 qa)).setCell ⟨wo.heap.size, 1, none⟩ (.int .i64 qs)).setCell ⟨wo.heap.size, 2, none⟩ (.int .i64 qp)).alloc (.cells #[.int .i64 qa, .int .i64 qs, .int .i64 qp] 72))) := Lib.hid ((((HB2_.out.setCell (Nat.le_refl _) _).setCell (Nat.le_refl _) _).setCell (Nat.le_refl _) _).alloc (by have := HB2_.out.size; simpa [World.setCell] using this) _)
                go_wp2
                go_roundw
                case rel => exact ⟨k + 1, some ⟨qa, qs, qp, qb⟩, by omega, by go_num, HL2, Lib.hid (HB2.out _ rfl), HB3.out⟩
                case measure => simp [intOf]; omega
              | some b =>
                obtain ⟨ba, bs, bp, bb⟩ := b
                obtain ⟨hbm, i', hi1, hi2⟩ := hLe.out.of _ rfl
                have hb0 := (HEACH.out _ (List.mem_of_getElem? hi2)).lo
                simp only at hb0
                clear hbm hi1 hi2
                have e0 : wr.cell? ⟨wo.heap.size, 0, none⟩ = some (.int .i64 ba) := hBk.out.cell 0
                have e1 : wr.cell? ⟨wo.heap.size, 1, none⟩ = some (.int .i64 bs) := hBk.out.cell 1
                have e2 : wr.cell? ⟨wo.heap.size, 2, none⟩ = some (.int .i64 bp) := hBk.out.cell 2
                have f0 : wr.frozen? ⟨wo.heap.size, 0, none⟩ = false := hBk.out.free 0
                have f1 : wr.frozen? ⟨wo.heap.size, 1, none⟩ = false := hBk.out.free 1
                have f2 : wr.frozen? ⟨wo.heap.size, 2, none⟩ = false := hBk.out.free 2
                have d0 : ∀ o' : Obj, (wr.alloc o').cell? ⟨wo.heap.size, 0, none⟩ = some (.int .i64 ba) := fun o' => Lib.cell?_alloc_some _ e0
                have d1 : ∀ o' : Obj, (wr.alloc o').cell? ⟨wo.heap.size, 1, none⟩ = some (.int .i64 bs) := fun o' => Lib.cell?_alloc_some _ e1
                have d2 : ∀ o' : Obj, (wr.alloc o').cell? ⟨wo.heap.size, 2, none⟩ = some (.int .i64 bp) := fun o' => Lib.cell?_alloc_some _ e2
                have m0 : ∀ o' : Obj, (wr.alloc o').frozen? ⟨wo.heap.size, 0, none⟩ = false := fun o' => (hBk.out.alloc o').free 0
                have m1 : ∀ o' : Obj, (wr.alloc o').frozen? ⟨wo.heap.size, 1, none⟩ = false := fun o' => (hBk.out.alloc o').free 1
                have m2 : ∀ o' : Obj, (wr.alloc o').frozen? ⟨wo.heap.size, 2, none⟩ = false := fun o' => (hBk.out.alloc o').free 2
                by_cases t2 : qa < ba
                · have HL2 := Lib.hid (hLe.out.yes HX.out (by simp only; omega) (fun b hb => by cases hb; simp only; omega))
                  have HB2 : Hid (∀ W2 : World, W2.heap = ((((wr.setCell ⟨wo.heap.size, 0, none⟩ (.int .i64 qa)).setCell ⟨wo.heap.size, 1, none⟩ (.int .i64 qs)).setCell ⟨wo.heap.size, 2, none⟩ (.int .i64 qp)).alloc (.cells #[.int .i64 qa, .int .i64 qs, .int .i64 qp] 72)).heap → Blk W2 wo.heap.size 72 (cells3 (some ⟨qa, qs, qp, qb⟩))) := Lib.hid (fun W2 hW2 => (congrArg (fun h => h[wo.heap.size]?) hW2).trans ((((hBk.out.set 0 (.int .i64 qa)).set 1 (.int .i64 qs)).set 2 (.int .i64 qp)).alloc (.cells #[.int .i64 qa, .int .i64 qs, .int .i64 qp] 72)))
                  have HB3 : Hid (Below wo.heap.size wo ((((wr.setCell ⟨wo.heap.size, 0, none⟩ (.int .i64 qa)).setCell ⟨wo.heap.size, 1, none⟩ (.int .i64 qs)).setCell ⟨wo.heap.size, 2, none⟩ (.int .i64 qp)).alloc (.cells #[.int .i64 qa, .int .i64 qs, .int .i64 qp] 72))) := Lib.hid ((((HB2_.out.setCell (Nat.le_refl _) _).setCell (Nat.le_refl _) _).setCell (Nat.le_refl _) _).alloc (by have := HB2_.out.size; simpa [World.setCell] using this) _)
                  go_wp2
                  go_roundw
                  case rel => exact ⟨k + 1, some ⟨qa, qs, qp, qb⟩, by omega, by go_num, HL2, Lib.hid (HB2.out _ rfl), HB3.out⟩
                  case measure => simp [intOf]; omega
                · have HL2 := Lib.hid (hLe.out.no HX.out (.inr ⟨_, rfl, by simp only; omega⟩))
                  have HBk2 := Lib.hid (fun o' => hBk.out.alloc o')
                  have HB3 := Lib.hid (fun o' => HB2_.out.alloc HB2_.out.size o')
                  go_wp2
                  go_roundw
                  case rel => exact ⟨k + 1, _, by omega, by go_num, HL2, Lib.hid (HBk2.out _), HB3.out _⟩
                  case measure => simp [intOf]; omega
            · exfalso; omega
          · have hkq : k = (Q.map (·.1)).length := by rw [List.length_map]; omega
            have hoo := HD.out o (by have h := hLe.out; rw [hkq] at h; exact h)
            rw [HRJ.out] at hoo
            subst hoo
            clear hkq
            obtain ⟨ra, rs, rp, rb⟩ := r
            have hown2 : Hid (wr.ownsRow w.heap.size 72 3 (.slice A' (0) c') (0) ((L.take (0)).flatMap rg3)) := Lib.hid (owns_block hown.out (fun g hg => hbel2.block g (hown.out.lt g hg).2))
            have e0 : wr.cell? ⟨wo.heap.size, 0, none⟩ = some (.int .i64 ra) := hBk.out.cell 0
            have e1 : wr.cell? ⟨wo.heap.size, 1, none⟩ = some (.int .i64 rs) := hBk.out.cell 1
            have e2 : wr.cell? ⟨wo.heap.size, 2, none⟩ = some (.int .i64 rp) := hBk.out.cell 2
            have f0 : wr.frozen? ⟨wo.heap.size, 0, none⟩ = false := hBk.out.free 0
            have f1 : wr.frozen? ⟨wo.heap.size, 1, none⟩ = false := hBk.out.free 1
            have f2 : wr.frozen? ⟨wo.heap.size, 2, none⟩ = false := hBk.out.free 2
            have d0 : ∀ o' : Obj, (wr.alloc o').cell? ⟨wo.heap.size, 0, none⟩ = some (.int .i64 ra) := fun o' => Lib.cell?_alloc_some _ e0
            have d1 : ∀ o' : Obj, (wr.alloc o').cell? ⟨wo.heap.size, 1, none⟩ = some (.int .i64 rs) := fun o' => Lib.cell?_alloc_some _ e1
            have d2 : ∀ o' : Obj, (wr.alloc o').cell? ⟨wo.heap.size, 2, none⟩ = some (.int .i64 rp) := fun o' => Lib.cell?_alloc_some _ e2
            have m0 : ∀ o' : Obj, (wr.alloc o').frozen? ⟨wo.heap.size, 0, none⟩ = false := fun o' => (hBk.out.alloc o').free 0
            have m1 : ∀ o' : Obj, (wr.alloc o').frozen? ⟨wo.heap.size, 1, none⟩ = false := fun o' => (hBk.out.alloc o').free 1
            have m2 : ∀ o' : Obj, (wr.alloc o').frozen? ⟨wo.heap.size, 2, none⟩ = false := fun o' => (hBk.out.alloc o').free 2
            have HSN := Lib.hid (regs_snoc L (0) ⟨ra, rs, rp, rb⟩ HRJ.out)
            have HB := Lib.hid hbel
            have HWZ : Hid (w.heap.size ≤ wr.heap.size) := Lib.hid hbel.size
            clear hbel hbel2
            go_wp2_with (at_builtin; refine wpList_append_own _ rfl _ _ 90 rfl w.heap.size 72 i0 (.agg #[.int .i64 0, .int .i64 0, .int .i64 0]) 3 24 Tryz.underlying90 HI.out.1 HI.out.2.1 HI.out.2.2.1 HI.out.2.2.2 rfl (by decide) _ (0) _ rfl (hown2.out.alloc _) ⟨wr.heap.size, 0, none⟩ 1 1 [.int .i64 ra, .int .i64 rs, .int .i64 rp] rfl ?c1 ?c2 ?c3 ?c4 ?c5 ?c6 ?_)
            case c1 => rfl
            case c2 => exact World.news_of_block (heap_alloc_new _ _)
            case c3 => intro u hu; simp only [List.mem_cons, List.not_mem_nil, or_false] at hu; rcases hu with rfl | rfl | rfl <;> rfl
            case c4 => unfold maxLen; omega
            case c5 => omega
            case c6 => have := HWZ.out; simp; omega
            intro v' w4 hown4 hgrow4 _
            obtain ⟨A4, c4, rfl⟩ := owns_shape hown4
            have hlt4 := hown2.out.lt
            have H4 : Hid (Below w.heap.size w w4) := Lib.hid ((HB.out.alloc HB.out.size _).grown hgrow4 (by have := HB.out.size; simp; omega) (fun j hj => (hlt4 j hj).1))
            have HO4 : Hid (w4.ownsRow w.heap.size 72 3 (.slice A4 (0 + 1) c4) (0 + 1) ((L.take (0 + 1)).flatMap rg3)) := Lib.hid (by rw [HSN.out]; exact hown4)
            clear hown4 hgrow4 hlt4
            go_wp2
            go_roundw
            case rel => exact ⟨0 + 1, A4, c4, by omega, rfl, HO4, H4.out⟩
            case measure => simp; omega
      · obtain ⟨g0, rfl, cl⟩ := hl2 (by omega)
        obtain ⟨j', rfl⟩ : ∃ j', j = j' + 1 := ⟨j - 1, by omega⟩
        rw [Nat.add_sub_cancel] at cl
        clear hl2 hl3 h0
        have HD2 := HD
        go_wp2_with fail
        obtain ⟨wo, rfl⟩ : ∃ wo : World, wo = wr := ⟨_, rfl⟩
        go_loopw [6] (fun i wr => ∃ (k : Nat) (o : Option Rg), k ≤ Q.length ∧ i = .int .i64 k ∧ Hid (Least (Q.map (·.1)) last k o) ∧ Hid (Blk wr wo.heap.size 72 (cells3 o)) ∧ Below wo.heap.size wo wr) (fun i _ => Q.length - (intOf i).toNat)
        case atStart => exact ⟨0, none, Nat.zero_le _, rfl, Lib.hid (Least.start _ _), Lib.hid (Blk.new _ _ _), (Below.refl _ _).alloc (Nat.le_refl _) _⟩
        case round =>
          obtain ⟨k, o, hk, rfl, hLe, hBk, hbel2⟩ := hrel
          have hbel : Below w.heap.size w wr := HBEL.out.trans (hbel2.mono HBEL.out.size)
          have b0 : wr.cell? ⟨a, 0, none⟩ = some (.slice A Q.length cap) := (hbel.cell (p := ⟨a, 0, none⟩) hbox).trans hc0
          by_cases hltk : k < Q.length
          · obtain ⟨q, hq⟩ : ∃ q, Q[k]? = some q := ⟨Q[k], List.getElem?_eq_getElem hltk⟩
            obtain ⟨g, rfl, hg, hcell⟩ := HR.out k q hq
            have hx : (Q.map (·.1))[k]? = some q.1 := by rw [List.getElem?_map, hq]; rfl
            have HX := Lib.hid hx; clear hx
            have HQ := Lib.hid hq; clear hq
            obtain ⟨⟨qa, qs, qp, qb⟩, qk, qc⟩ := q
            have c0 : wr.cell? ⟨g, k * 4, none⟩ = some (.int .i64 qa) := (hbel.cell (p := ⟨g, k * 4, none⟩) hg).trans (hcell 0 _ rfl)
            have c1 : wr.cell? ⟨g, k * 4 + 1, none⟩ = some (.int .i64 qs) := (hbel.cell (p := ⟨g, k * 4 + 1, none⟩) hg).trans (hcell 1 _ rfl)
            have c2 : wr.cell? ⟨g, k * 4 + 2, none⟩ = some (.int .i64 qp) := (hbel.cell (p := ⟨g, k * 4 + 2, none⟩) hg).trans (hcell 2 _ rfl)
            have c3 : wr.cell? ⟨g, k * 4 + 3, none⟩ = some (.slice (some ⟨qk, 0, none⟩) qb.length qc) := (hbel.cell (p := ⟨g, k * 4 + 3, none⟩) hg).trans (hcell 3 _ rfl)
            clear hcell
            have ho := HEACH.out _ (List.mem_of_getElem? HX.out)
            have o1 := ho.lo; have o2 := ho.hi; have o3 := ho.slo
            simp only at o1 o2 o3
            clear ho
            have HB2_ := Lib.hid hbel2
            have hbl := hBk.out.lt
            clear hbel hbel2
            by_cases t1 : last < qa
            · cases o with
              | none =>
                have e0 : wr.cell? ⟨wo.heap.size, 0, none⟩ = some (.int .i64 (-1)) := hBk.out.cell 0
                have e1 : wr.cell? ⟨wo.heap.size, 1, none⟩ = some (.int .i64 0) := hBk.out.cell 1
                have e2 : wr.cell? ⟨wo.heap.size, 2, none⟩ = some (.int .i64 0) := hBk.out.cell 2
                have f0 : wr.frozen? ⟨wo.heap.size, 0, none⟩ = false := hBk.out.free 0
                have f1 : wr.frozen? ⟨wo.heap.size, 1, none⟩ = false := hBk.out.free 1
                have f2 : wr.frozen? ⟨wo.heap.size, 2, none⟩ = false := hBk.out.free 2
                have d0 : ∀ o' : Obj, (wr.alloc o').cell? ⟨wo.heap.size, 0, none⟩ = some (.int .i64 (-1)) := fun o' => Lib.cell?_alloc_some _ e0
                have d1 : ∀ o' : Obj, (wr.alloc o').cell? ⟨wo.heap.size, 1, none⟩ = some (.int .i64 0) := fun o' => Lib.cell?_alloc_some _ e1
                have d2 : ∀ o' : Obj, (wr.alloc o').cell? ⟨wo.heap.size, 2, none⟩ = some (.int .i64 0) := fun o' => Lib.cell?_alloc_some _ e2
                have m0 : ∀ o' : Obj, (wr.alloc o').frozen? ⟨wo.heap.size, 0, none⟩ = false := fun o' => (hBk.out.alloc o').free 0
                have m1 : ∀ o' : Obj, (wr.alloc o').frozen? ⟨wo.heap.size, 1, none⟩ = false := fun o' => (hBk.out.alloc o').free 1
                have m2 : ∀ o' : Obj, (wr.alloc o').frozen? ⟨wo.heap.size, 2, none⟩ = false := fun o' => (hBk.out.alloc o').free 2
                have HL2 := Lib.hid (hLe.out.yes HX.out (by simp only; omega) (fun b hb => by cases hb))
                have HB2 : Hid (∀ W2 : World, W2.heap = ((((wr.setCell ⟨wo.heap.size, 0, none⟩ (.int .i64 qa)).setCell ⟨wo.heap.size, 1, none⟩ (.int .i64 qs)).setCell ⟨wo.heap.size, 2, none⟩ (.int .i64 qp)).alloc (.cells #[.int .i64 qa, .int .i64 qs, .int .i64 qp] 72)).heap → Blk W2 wo.heap.size 72 (cells3 (some ⟨qa, qs, qp, qb⟩))) := Lib.hid (fun W2 hW2 => (congrArg (fun h => h[wo.heap.size]?) hW2).trans ((((hBk.out.set 0 (.int .i64 qa)).set 1 (.int .i64 qs)).set 2 (.int .i64 qp)).alloc (.cells #[.int .i64 qa, .int .i64 qs, .int .i64 qp] 72)))
                have HB3 : Hid (Below wo.heap.size wo ((((wr.setCell ⟨wo.heap.size, 0, none⟩ (.int .i64 qa)).setCell ⟨wo.heap.size, 1, none⟩ (.int .i64 qs)).setCell ⟨wo.heap.size, 2, none⟩ (.int .i64 qp)).alloc (.cells #[.int .i64 qa, .int .i64 qs, .int .i64 qp] 72))) := Lib.hid ((((HB2_.out.setCell (Nat.le_refl _) _).setCell (Nat.le_refl _) _).setCell (Nat.le_refl _) _).alloc (by have := HB2_.out.size; simpa [World.setCell] using this) _)
                go_wp2
                go_roundw
                case rel => exact ⟨k + 1, some ⟨qa, qs, qp, qb⟩, by omega, by go_num, HL2, Lib.hid (HB2.out _ rfl), HB3.out⟩
                case measure => simp [intOf]; omega
              | some b =>
                obtain ⟨ba, bs, bp, bb⟩ := b
                obtain ⟨hbm, i', hi1, hi2⟩ := hLe.out.of _ rfl
                have hb0 := (HEACH.out _ (List.mem_of_getElem? hi2)).lo
                simp only at hb0
                clear hbm hi1 hi2
                have e0 : wr.cell? ⟨wo.heap.size, 0, none⟩ = some (.int .i64 ba) := hBk.out.cell 0
                have e1 : wr.cell? ⟨wo.heap.size, 1, none⟩ = some (.int .i64 bs) := hBk.out.cell 1
                have e2 : wr.cell? ⟨wo.heap.size, 2, none⟩ = some (.int .i64 bp) := hBk.out.cell 2
                have f0 : wr.frozen? ⟨wo.heap.size, 0, none⟩ = false := hBk.out.free 0
                have f1 : wr.frozen? ⟨wo.heap.size, 1, none⟩ = false := hBk.out.free 1
                have f2 : wr.frozen? ⟨wo.heap.size, 2, none⟩ = false := hBk.out.free 2
                have d0 : ∀ o' : Obj, (wr.alloc o').cell? ⟨wo.heap.size, 0, none⟩ = some (.int .i64 ba) := fun o' => Lib.cell?_alloc_some _ e0
                have d1 : ∀ o' : Obj, (wr.alloc o').cell? ⟨wo.heap.size, 1, none⟩ = some (.int .i64 bs) := fun o' => Lib.cell?_alloc_some _ e1
                have d2 : ∀ o' : Obj, (wr.alloc o').cell? ⟨wo.heap.size, 2, none⟩ = some (.int .i64 bp) := fun o' => Lib.cell?_alloc_some _ e2
                have m0 : ∀ o' : Obj, (wr.alloc o').frozen? ⟨wo.heap.size, 0, none⟩ = false := fun o' => (hBk.out.alloc o').free 0
                have m1 : ∀ o' : Obj, (wr.alloc o').frozen? ⟨wo.heap.size, 1, none⟩ = false := fun o' => (hBk.out.alloc o').free 1
                have m2 : ∀ o' : Obj, (wr.alloc o').frozen? ⟨wo.heap.size, 2, none⟩ = false := fun o' => (hBk.out.alloc o').free 2
                by_cases t2 : qa < ba
                · have HL2 := Lib.hid (hLe.out.yes HX.out (by simp only; omega) (fun b hb => by cases hb; simp only; omega))
                  have HB2 : Hid (∀ W2 : World, W2.heap = ((((wr.setCell ⟨wo.heap.size, 0, none⟩ (.int .i64 qa)).setCell ⟨wo.heap.size, 1, none⟩ (.int .i64 qs)).setCell ⟨wo.heap.size, 2, none⟩ (.int .i64 qp)).alloc (.cells #[.int .i64 qa, .int .i64 qs, .int .i64 qp] 72)).heap → Blk W2 wo.heap.size 72 (cells3 (some ⟨qa, qs, qp, qb⟩))) := Lib.hid (fun W2 hW2 => (congrArg (fun h => h[wo.heap.size]?) hW2).trans ((((hBk.out.set 0 (.int .i64 qa)).set 1 (.int .i64 qs)).set 2 (.int .i64 qp)).alloc (.cells #[.int .i64 qa, .int .i64 qs, .int .i64 qp] 72)))
                  have HB3 : Hid (Below wo.heap.size wo ((((wr.setCell ⟨wo.heap.size, 0, none⟩ (.int .i64 qa)).setCell ⟨wo.heap.size, 1, none⟩ (.int .i64 qs)).setCell ⟨wo.heap.size, 2, none⟩ (.int .i64 qp)).alloc (.cells #[.int .i64 qa, .int .i64 qs, .int .i64 qp] 72))) := Lib.hid ((((HB2_.out.setCell (Nat.le_refl _) _).setCell (Nat.le_refl _) _).setCell (Nat.le_refl _) _).alloc (by have := HB2_.out.size; simpa [World.setCell] using this) _)
                  go_wp2
                  go_roundw
                  case rel => exact ⟨k + 1, some ⟨qa, qs, qp, qb⟩, by omega, by go_num, HL2, Lib.hid (HB2.out _ rfl), HB3.out⟩
                  case measure => simp [intOf]; omega
                · have HL2 := Lib.hid (hLe.out.no HX.out (.inr ⟨_, rfl, by simp only; omega⟩))
                  have HBk2 := Lib.hid (fun o' => hBk.out.alloc o')
                  have HB3 := Lib.hid (fun o' => HB2_.out.alloc HB2_.out.size o')
                  go_wp2
                  go_roundw
                  case rel => exact ⟨k + 1, _, by omega, by go_num, HL2, Lib.hid (HBk2.out _), HB3.out _⟩
                  case measure => simp [intOf]; omega
            · have HL2 := Lib.hid (hLe.out.no HX.out (.inl (by simp only; omega)))
              have HBk2 := Lib.hid (fun o' => hBk.out.alloc o')
              have HB3 := Lib.hid (fun o' => HB2_.out.alloc HB2_.out.size o')
              go_wp2
              go_roundw
              case rel => exact ⟨k + 1, _, by omega, by go_num, HL2, Lib.hid (HBk2.out _), HB3.out _⟩
              case measure => simp [intOf]; omega
          · have hkq : k = (Q.map (·.1)).length := by rw [List.length_map]; omega
            have hoo := HD.out o (by have h := hLe.out; rw [hkq] at h; exact h)
            rw [HRJ.out] at hoo
            subst hoo
            clear hkq
            obtain ⟨ra, rs, rp, rb⟩ := r
            have hown2 : Hid (wr.ownsRow w.heap.size 72 3 (.slice (some ⟨g0, 0, none⟩) (j' + 1) c') (j' + 1) ((L.take (j' + 1)).flatMap rg3)) := Lib.hid (owns_block hown.out (fun g hg => hbel2.block g (hown.out.lt g hg).2))
            have e0 : wr.cell? ⟨wo.heap.size, 0, none⟩ = some (.int .i64 ra) := hBk.out.cell 0
            have e1 : wr.cell? ⟨wo.heap.size, 1, none⟩ = some (.int .i64 rs) := hBk.out.cell 1
            have e2 : wr.cell? ⟨wo.heap.size, 2, none⟩ = some (.int .i64 rp) := hBk.out.cell 2
            have f0 : wr.frozen? ⟨wo.heap.size, 0, none⟩ = false := hBk.out.free 0
            have f1 : wr.frozen? ⟨wo.heap.size, 1, none⟩ = false := hBk.out.free 1
            have f2 : wr.frozen? ⟨wo.heap.size, 2, none⟩ = false := hBk.out.free 2
            have d0 : ∀ o' : Obj, (wr.alloc o').cell? ⟨wo.heap.size, 0, none⟩ = some (.int .i64 ra) := fun o' => Lib.cell?_alloc_some _ e0
            have d1 : ∀ o' : Obj, (wr.alloc o').cell? ⟨wo.heap.size, 1, none⟩ = some (.int .i64 rs) := fun o' => Lib.cell?_alloc_some _ e1
            have d2 : ∀ o' : Obj, (wr.alloc o').cell? ⟨wo.heap.size, 2, none⟩ = some (.int .i64 rp) := fun o' => Lib.cell?_alloc_some _ e2
            have m0 : ∀ o' : Obj, (wr.alloc o').frozen? ⟨wo.heap.size, 0, none⟩ = false := fun o' => (hBk.out.alloc o').free 0
            have m1 : ∀ o' : Obj, (wr.alloc o').frozen? ⟨wo.heap.size, 1, none⟩ = false := fun o' => (hBk.out.alloc o').free 1
            have m2 : ∀ o' : Obj, (wr.alloc o').frozen? ⟨wo.heap.size, 2, none⟩ = false := fun o' => (hBk.out.alloc o').free 2
            have HSN := Lib.hid (regs_snoc L (j' + 1) ⟨ra, rs, rp, rb⟩ HRJ.out)
            have HB := Lib.hid hbel
            have HWZ : Hid (w.heap.size ≤ wr.heap.size) := Lib.hid hbel.size
            clear hbel hbel2
            go_wp2_with (at_builtin; refine wpList_append_own _ rfl _ _ 90 rfl w.heap.size 72 i0 (.agg #[.int .i64 0, .int .i64 0, .int .i64 0]) 3 24 Tryz.underlying90 HI.out.1 HI.out.2.1 HI.out.2.2.1 HI.out.2.2.2 rfl (by decide) _ (j' + 1) _ rfl (hown2.out.alloc _) ⟨wr.heap.size, 0, none⟩ 1 1 [.int .i64 ra, .int .i64 rs, .int .i64 rp] rfl ?c1 ?c2 ?c3 ?c4 ?c5 ?c6 ?_)
            case c1 => rfl
            case c2 => exact World.news_of_block (heap_alloc_new _ _)
            case c3 => intro u hu; simp only [List.mem_cons, List.not_mem_nil, or_false] at hu; rcases hu with rfl | rfl | rfl <;> rfl
            case c4 => unfold maxLen; omega
            case c5 => omega
            case c6 => have := HWZ.out; simp; omega
            intro v' w4 hown4 hgrow4 _
            obtain ⟨A4, c4, rfl⟩ := owns_shape hown4
            have hlt4 := hown2.out.lt
            have H4 : Hid (Below w.heap.size w w4) := Lib.hid ((HB.out.alloc HB.out.size _).grown hgrow4 (by have := HB.out.size; simp; omega) (fun j hj => (hlt4 j hj).1))
            have HO4 : Hid (w4.ownsRow w.heap.size 72 3 (.slice A4 (j' + 1 + 1) c4) (j' + 1 + 1) ((L.take (j' + 1 + 1)).flatMap rg3)) := Lib.hid (by rw [HSN.out]; exact hown4)
            clear hown4 hgrow4 hlt4
            go_wp2
            go_roundw
            case rel => exact ⟨j' + 1 + 1, A4, c4, by omega, rfl, HO4, H4.out⟩
            case measure => simp; omega
    · have hjq : j = Q.length := by omega
      have H1 : Hid (Regs wr w.heap.size (.slice A' Q.length c') L) := Lib.hid (by
        have h := hown.out
        rw [hjq, List.take_of_length_le (by have := HPL.out; omega)] at h
        unfold Regs
        have h2 : L.length = Q.length := HPL.out.symm
        rw [h2]
        exact h)
      subst hjq
      go_wp2
      go_ret
      exact ⟨_, rfl, H1.out, hbel⟩
end Go.Proofs.YtpenejigebkkmaaGreat

namespace Go.Proofs.YtpenejigebkkmaaGreat
open Go.RowKit Spm
set_option linter.unusedVariables false
set_option linter.unusedSimpArgs false

/-- The region that has an address is the same one, in whatever order. -/
theorem reg_perm {M L : List Rg} (hp : M.Perm L) (hL : Ok L) (x : Int) : M[partK M x]? = L[partK L x]? := by
  have hsome : ∀ N : List Rg, ∀ r, N[partK N x]? = some r → inside x r = true := fun N r hr => by
    obtain ⟨hl, he⟩ := List.getElem?_eq_some_iff.1 hr
    have := List.findIdx_getElem (p := inside x) (xs := N) (w := hl)
    rw [← he]; exact this
  cases hm : M[partK M x]? with
  | some r =>
    have hin := hsome M r hm
    obtain ⟨i, hi⟩ := List.mem_iff_getElem?.1 (hp.mem_iff.1 (List.mem_of_getElem? hm))
    rw [partK_eq hL hi hin, hi]
  | none =>
    cases hl : L[partK L x]? with
    | none => rfl
    | some r =>
      have hin := hsome L r hl
      have hlt : partK M x < M.length := List.findIdx_lt_length_of_exists ⟨r, hp.mem_iff.2 (List.mem_of_getElem? hl), hin⟩
      rw [List.getElem?_eq_getElem hlt] at hm
      cases hm
theorem partS_perm {M L : List Rg} (hp : M.Perm L) (hL : Ok L) (x : Int) (n : Nat) (p : Int) : partS M x n p = partS L x n p := by unfold partS; rw [reg_perm hp hL]
theorem getS_perm {M L : List Rg} (hp : M.Perm L) (hL : Ok L) (x n p : Int) : getS M x n p = getS L x n p := by unfold getS; rw [partS_perm hp hL, reg_perm hp hL]
theorem modify_perm {α : Type} (f : α → α) : ∀ (l : List α) (i : Nat) (x : α), l[i]? = some x → (l.modify i f).Perm (f x :: l.eraseIdx i)
  | y :: l, 0, x, h => by simp at h; subst h; simp
  | y :: l, i + 1, x, h => by
    have ih := modify_perm f l i x (by simpa using h)
    simp only [List.modify_succ_cons, List.eraseIdx_cons_succ]
    exact (ih.cons y).trans (List.Perm.swap _ _ _)
theorem mod_perm {M L : List Rg} (hp : M.Perm L) {i j : Nat} {r : Rg} (hi : M[i]? = some r) (hj : L[j]? = some r) (f : Rg → Rg) : (M.modify i f).Perm (L.modify j f) := by
  have h1 := modify_perm f M i r hi
  have h2 := modify_perm f L j r hj
  obtain ⟨l1, e1⟩ := List.getElem?_eq_some_iff.1 hi
  obtain ⟨l2, e2⟩ := List.getElem?_eq_some_iff.1 hj
  have p1 := perm_erase M i l1
  have p2 := perm_erase L j l2
  rw [e1] at p1
  rw [e2] at p2
  have p3 : (M.eraseIdx i).Perm (L.eraseIdx j) := (List.perm_cons r).1 (p1.symm.trans (hp.trans p2))
  exact h1.trans ((p3.cons _).trans h2.symm)
theorem setS_perm {M L : List Rg} (hp : M.Perm L) (hL : Ok L) (x : Int) (b : List UInt8) (p : Int) : (setS M x b p).1.Perm (setS L x b p).1 ∧ (setS M x b p).2 = (setS L x b p).2 := by
  unfold setS
  rw [partS_perm hp hL]
  split
  · exact ⟨hp, rfl⟩
  · split
    · exact ⟨hp, rfl⟩
    · rename_i h1 h2
      refine ⟨?_, rfl⟩
      have h3 : partS L x b.length p = 0 := by simpa using h2
      obtain ⟨r, hr, _⟩ := partS_ok h3
      exact mod_perm hp ((reg_perm hp hL x).trans hr) hr _
theorem protectS_perm {M L : List Rg} (hp : M.Perm L) (hL : Ok L) (x p : Int) : (protectS M x p).1.Perm (protectS L x p).1 ∧ (protectS M x p).2 = (protectS L x p).2 := by
  unfold protectS
  split
  · exact ⟨hp, rfl⟩
  · obtain ⟨e1, _⟩ := erase_perm (x := x) hp hL
    by_cases hm : findS M x < M.length
    · rw [if_pos hm, if_pos (e1.1 hm)]
      refine ⟨?_, rfl⟩
      have hl := e1.1 hm
      have em := beq_iff_eq.1 (List.findIdx_getElem (p := fun r : Rg => r.at_ == x) (xs := M) (w := hm))
      have h1 : M[findS M x]? = some M[findS M x] := List.getElem?_eq_getElem hm
      obtain ⟨i, hi⟩ := List.mem_iff_getElem?.1 (hp.mem_iff.1 (List.mem_of_getElem? h1))
      have h2 := findS_eq hL hi em
      exact mod_perm hp h1 (by rw [h2]; exact hi) _
    · rw [if_neg hm, if_neg (fun h => hm (e1.2 h))]
      exact ⟨hp, rfl⟩

/-- The document's space. -/
def Rf (a : Nat) (L : List Rg) : Res := fun w F => RSpL w a F L ∧ Ok L
instance fr_rf (a : Nat) (L : List Rg) : Fr (Rf a L) := ⟨fun ⟨⟨M, h, hp⟩, ok⟩ hk => ⟨⟨M, h.keep hk, hp⟩, ok⟩, fun ⟨⟨M, h, hp⟩, ok⟩ hm => ⟨⟨M, h.mono hm, hp⟩, ok⟩⟩
theorem Goes.setsL {a : Nat} {F : Nat → Prop} {r : List Rg × Int} {wr w' : World} {e : Ending} (h : SetsL a F r wr e w') (hok : Ok r.1) : Goes (Rf a r.1) F wr w' := ⟨⟨h.2.1, hok⟩, h.2.2⟩
theorem Goes.sets2L {a : Nat} {F : Nat → Prop} {r : List Rg × Int × Int} {wr w' : World} {e : Ending} (h : Sets2L a F r wr e w') (hok : Ok r.1) : Goes (Rf a r.1) F wr w' := ⟨⟨h.2.1, hok⟩, h.2.2⟩
theorem SetsL.of {a : Nat} {F : Nat → Prop} {r r' : List Rg × Int} {w w' : World} {e : Ending} (h : SetsR a F r w e w') (hp : r.1.Perm r'.1 ∧ r.2 = r'.2) : SetsL a F r' w e w' := ⟨by rw [h.1, hp.2], ⟨_, h.2.1, hp.1⟩, h.2.2⟩
theorem Sets2L.after {a : Nat} {F : Nat → Prop} {r : List Rg × Int × Int} {w w1 w' : World} {e : Ending} (hb : Below w.heap.size w w1) (h : Sets2L a F r w1 e w') : Sets2L a F r w e w' :=
  ⟨h.1, by obtain ⟨M, h1, h2⟩ := h.2.1; exact ⟨M, h1.mono (fun k hk _ => by have := hb.size; rcases hk with hk | hk; exact .inl hk; exact .inr (by omega)), h2⟩, (Keeps.of_below hb).trans' h.2.2⟩
theorem RSpL.stay {a : Nat} {F : Nat → Prop} {L : List Rg} {w w' : World} (h : RSpL w a F L) (hb : Below w.heap.size w w') : RSpL w' a F L := by obtain ⟨M, h1, h2⟩ := h; exact ⟨M, h1.stay hb, h2⟩
theorem SrcF.alloc {w : World} {F : Nat → Prop} {A : Option Addr} {b : List UInt8} (h : SrcF w F A b) (o : Obj) : SrcF (w.alloc o) F A b := fun hn => by
  obtain ⟨bb, off, h1, h2, h3, h4⟩ := h hn
  exact ⟨bb, off, h1, h2, by simp; omega, fun j x hj => Lib.cell?_alloc_some _ (h4 j x hj)⟩

section
variable {a : Nat} {F : Nat → Prop} {L : List Rg} {w : World}
theorem rmap_l (h : RSpL w a F L) (ok : Ok L) (size p : Int) : Calls Tryz.prog 55 #[.pointer (some ⟨a, 0, none⟩), .int .i64 size, .int .i64 p] w (Sets2L a F (mapS L size p) w) := by
  obtain ⟨M, h1, hp⟩ := h
  exact rmap_any a F M L hp ok size p w h1
theorem rmapAt_l (h : RSpL w a F L) (ok : Ok L) (x size p : Int) (hx : I64 x) : Calls Tryz.prog 69 #[.pointer (some ⟨a, 0, none⟩), .int .i64 x, .int .i64 size, .int .i64 p] w (SetsL a F (mapAtS L x size p) w) := by
  obtain ⟨M, h1, hp⟩ := h
  exact rmapAt_any a F M L hp ok x size p hx w h1
theorem runmap_l (h : RSpL w a F L) (ok : Ok L) (x : Int) : Calls Tryz.prog 53 #[.pointer (some ⟨a, 0, none⟩), .int .i64 x] w (SetsL a F (unmapS L x) w) := by
  obtain ⟨M, h1, hp⟩ := h
  exact runmap_any a F M L hp ok x w h1
theorem rset_l (h : RSpL w a F L) (ok : Ok L) (x : Int) (hx : I64 x) (A : Option Addr) (c : Nat) (b : List UInt8) (hb : b.length ≤ 9223372036854775807) (p : Int) (hp' : p = 0 ∨ p = 1 ∨ p = 2 ∨ p = 4) (hs : SrcF w F A b) : Calls Tryz.prog 32 #[.pointer (some ⟨a, 0, none⟩), .int .i64 x, .slice A b.length c, .int .i64 p] w (SetsL a F (setS L x b p) w) := by
  obtain ⟨M, h1, hp⟩ := h
  exact (rset_any a F M (each_perm hp ok) x hx A c b hb p hp' w h1 hs).mono fun e w' hs => SetsL.of hs (setS_perm hp ok x b p)
theorem rget_l (h : RSpL w a F L) (ok : Ok L) (x : Int) (hx : I64 x) (n p : Int) (hn : I64 n) (hp' : p = 0 ∨ p = 1 ∨ p = 2 ∨ p = 4) : Calls Tryz.prog 42 #[.pointer (some ⟨a, 0, none⟩), .int .i64 x, .int .i64 n, .int .i64 p] w (GotB w.heap.size (getS L x n p).1 (getS L x n p).2 w) := by
  obtain ⟨M, h1, hp⟩ := h
  rw [← getS_perm hp ok]
  exact rget_any a F M (each_perm hp ok) x hx n p hn hp' w h1
end

section
variable {B : Nat} {w wr w' : World} {a : Nat} {L : List Rg} {Y : Res}
theorem Has.rsp (h : Has B w wr (Star (Rf a L) Y)) : ∃ F, RSpL wr a F L ∧ Ok L := by
  obtain ⟨F, ⟨F1, F2, h1, _⟩, _⟩ := h.own
  exact ⟨F1, h1⟩
theorem Has.rok (h : Has B w wr (Star (Rf a L) Y)) : Ok L := by
  obtain ⟨F, h1, h2⟩ := h.rsp
  exact h2
theorem own_rget [hY : Fr Y] (h : Has B w wr (Star (Rf a L) Y)) (x : Int) (hx : I64 x) (n p : Int) (hn : I64 n) (hp' : p = 0 ∨ p = 1 ∨ p = 2 ∨ p = 4) : Calls Tryz.prog 42 #[.pointer (some ⟨a, 0, none⟩), .int .i64 x, .int .i64 n, .int .i64 p] wr fun e w' => ∃ v', e = .returned (.tuple #[v', .int .i64 (getS L x n p).2]) ∧ Has B w w' (Star (Bt v' (getS L x n p).1) (Star (Rf a L) Y)) := by
  obtain ⟨F, h1, ok⟩ := h.rsp
  exact (rget_l h1 ok x hx n p hn hp').mono fun e w' ⟨v', e1, e2, e3⟩ => ⟨v', e1, h.bytes e2 e3⟩
theorem own_rgap [hY : Fr Y] (h : Has B w wr (Star (Rf a L) Y)) (size : Int) : Calls Tryz.prog 68 #[.pointer (some ⟨a, 0, none⟩), .int .i64 size] wr fun e w' => e = .returned (.tuple #[.int .i64 (gapS L size).1, .int .i64 (gapS L size).2]) ∧ Has B w w' (Star (Rf a L) Y) := by
  obtain ⟨F, ⟨M, h1, hp⟩, ok⟩ := h.rsp
  exact (rgap_any a F M L hp ok size wr h1).mono fun e w' ⟨e1, e2⟩ => ⟨e1, h.stay e2⟩
theorem own_rregions [hY : Fr Y] (h : Has B w wr (Star (Rf a L) Y)) : Calls Tryz.prog 38 #[.pointer (some ⟨a, 0, none⟩)] wr fun e w' => ∃ v', e = .returned v' ∧ Has B w w' (Star (Rs v' L) (Star (Rf a L) Y)) := by
  obtain ⟨F, ⟨M, h1, hp⟩, ok⟩ := h.rsp
  exact (rregions_any a F M L hp ok wr h1).mono fun e w' ⟨v', e1, e2, e3⟩ => ⟨v', e1, h.regs e2 e3⟩
theorem own_rmap [hY : Fr Y] (h : Has B w wr (Star (Rf a L) Y)) (size p : Int) : Calls Tryz.prog 55 #[.pointer (some ⟨a, 0, none⟩), .int .i64 size, .int .i64 p] wr fun e w' => e = .returned (.tuple #[.int .i64 (mapS L size p).2.1, .int .i64 (mapS L size p).2.2]) ∧ Has B w w' (Star (Rf a (mapS L size p).1) Y) :=
  h.call fun F ⟨h1, ok⟩ => (rmap_l h1 ok size p).mono fun _ _ hs => ⟨hs.1, Goes.sets2L hs (ok.map _ _)⟩
theorem own_rmapAt [hY : Fr Y] (h : Has B w wr (Star (Rf a L) Y)) (x size p : Int) (hx : I64 x) : Calls Tryz.prog 69 #[.pointer (some ⟨a, 0, none⟩), .int .i64 x, .int .i64 size, .int .i64 p] wr fun e w' => e = .returned (.int .i64 (mapAtS L x size p).2) ∧ Has B w w' (Star (Rf a (mapAtS L x size p).1) Y) :=
  h.call fun F ⟨h1, ok⟩ => (rmapAt_l h1 ok x size p hx).mono fun _ _ hs => ⟨hs.1, Goes.setsL hs (ok.mapAt _ _ _)⟩
theorem own_runmap [hY : Fr Y] (h : Has B w wr (Star (Rf a L) Y)) (x : Int) : Calls Tryz.prog 53 #[.pointer (some ⟨a, 0, none⟩), .int .i64 x] wr fun e w' => e = .returned (.int .i64 (unmapS L x).2) ∧ Has B w w' (Star (Rf a (unmapS L x).1) Y) :=
  h.call fun F ⟨h1, ok⟩ => (runmap_l h1 ok x).mono fun _ _ hs => ⟨hs.1, Goes.setsL hs (ok.unmap _)⟩
/-- Bytes that stand where a thing does not. -/
def AwayB (A : Option Addr) (b : List UInt8) (B : Nat) (wr : World) (Y : Res) : Prop := ∀ F G : Nat → Prop, Y wr G → (∀ k, F k → ¬ G k) → (∀ k, F k → B ≤ k) → SrcF wr F A b
theorem own_rset [hY : Fr Y] (h : Has B w wr (Star (Rf a L) Y)) (x : Int) (hx : I64 x) (A : Option Addr) (c : Nat) (b : List UInt8) (hb : b.length ≤ 9223372036854775807) (p : Int) (hp' : p = 0 ∨ p = 1 ∨ p = 2 ∨ p = 4) (hs : AwayB A b B wr Y) : Calls Tryz.prog 32 #[.pointer (some ⟨a, 0, none⟩), .int .i64 x, .slice A b.length c, .int .i64 p] wr fun e w' =>
    e = .returned (.int .i64 (setS L x b p).2) ∧ Has B w w' (Star (Rf a (setS L x b p).1) Y) :=
  h.callY fun F G ⟨h1, ok⟩ h2 hd hB => (rset_l h1 ok x hx A c b hb p hp' (hs F G h2 hd hB)).mono fun _ _ hs => ⟨hs.1, Goes.setsL hs (ok.set _ _ _)⟩
/-- A new one: the zero value in a block of its own. -/
theorem Has.rnew [Fr Y] (h : Has B w wr Y) : Has B w (wr.alloc (.cells #[.slice none 0 0] 37)) (Star (Rf wr.heap.size []) Y) :=
  h.add ((Below.refl _ _).alloc (Nat.le_refl _) _) ⟨⟨[], ⟨.slice none 0 0, [], ⟨Blk.new _ _ _, World.ownsRow_nil _ _ _ _, by simp, by simp [foot, Value.ownBlock]⟩, rfl, by simp [foot, Value.ownBlock]⟩, List.Perm.refl _⟩, Ok.nil⟩
end
end Go.Proofs.YtpenejigebkkmaaGreat
