/-
  Layers 2 and 8: what a filter lacks; those that are seen; how often a place stands.
  Conditions: none. (My own text.)
-/
import Derived.Test.YtlkelfaokbdddaaImd
import Derived.Test.YtlkelfaokbdddaaImc
namespace Go.Proofs.Ytlkelfaokbdddaa
open Go.RowKit Spm
set_option linter.unusedVariables false
set_option linter.unusedSimpArgs false

set_option maxRecDepth 100000 in
set_option maxHeartbeats 4000000 in
theorem lacks02_any (A : Option Addr) (l : List Int) (c : Nat) (s h : Int) (P : Nat → Prop) (w : World) (hr : RowsAt 1 u64C w P (.slice A l.length c) l) (h0 : 0 ≤ h) (h1 : h < 4294967296) : Calls Try.prog 62 #[.agg #[.slice A l.length c, .int .i64 s], .int .u32 h] w (BoolE w) := by
  have HR := Lib.hid hr
  obtain ⟨A', c', hA', hc, hm, _⟩ := hr
  have hmm : l.length ≤ maxLen := by omega
  have HMM := Lib.hid hmm
  unfold maxLen at hmm
  clear hc hm hA'
  have M0 := Lib.hid ((Has.start (Below.refl w.heap.size w) (Nat.le_refl _)).newcel 31 #[.slice A l.length c, .int .i64 s])
  go_enter Try.func62, Try.ntmps62
  go_upto_region 1 with (fail)
  obtain ⟨W, hW⟩ : ∃ W, (w.alloc (.cells #[.slice A l.length c, .int .i64 s] 31)) = W := ⟨_, rfl⟩
  rw [hW] at M0 ⊢
  clear hW
  generalize hB : w.heap.size = b0 at M0 ⊢
  have HB := Lib.hid hB
  clear hB
  go_wp2_with (first | (refine wpList_rowW rfl 31 _ rfl b0 rfl #[.slice A l.length c, .int .i64 s] _ (M0.out.getc b0) Try.underlying31 rfl (by kernel_rfl) ?_))
  refine (right02_any A l.length c s HMM.out W).mono ?_
  rintro e w1 ⟨⟨b, rfl, hb⟩, hbel⟩
  have M1 := Lib.hid (M0.out.stay hbel)
  have MZ := Lib.hid M1.out.bel
  clear M0 hbel
  cases b with
  | false =>
    clear hb
    go_wp2
    go_ret
    exact ⟨⟨_, rfl⟩, by rw [HB.out]; exact MZ.out⟩
  | true =>
    obtain ⟨hl1, s1, s2⟩ := hb rfl
    clear hb MZ
    obtain ⟨q, hq⟩ : ∃ q : Nat, h.tdiv 64 = (q : Int) := ⟨(h.tdiv 64).toNat, by rw [Int.tdiv_eq_ediv_of_nonneg h0]; omega⟩
    have hq1 : q < 67108864 := by rw [Int.tdiv_eq_ediv_of_nonneg h0] at hq; omega
    obtain ⟨j, hj⟩ : ∃ j : Nat, (q : Int).tmod (l.length : Int) = (j : Int) := ⟨q % l.length, by rw [Int.tmod_eq_emod_of_nonneg (by omega)]; omega⟩
    have hjl : j < l.length := by
      have e1 : (q : Int).tmod (l.length : Int) = (q : Int) % (l.length : Int) := Int.tmod_eq_emod_of_nonneg (by omega)
      have e2 := Int.emod_lt_of_pos (q : Int) (show (0 : Int) < (l.length : Int) by omega)
      omega
    obtain ⟨x, hx⟩ : ∃ x, l[j]? = some x := ⟨_, List.getElem?_eq_getElem hjl⟩
    obtain ⟨A', c', hA', _, _, hrow⟩ := HR.out
    simp only [Value.slice.injEq, true_and] at hA'
    obtain ⟨rfl, rfl⟩ := hA'
    obtain ⟨b, off, rfl, _, hlt, hcell⟩ := hrow j x hx
    have c0 : w1.cell? ⟨b, off + j, none⟩ = some (.int .u64 x) := by
      have := (M1.out.bel.cell (p := ⟨b, off + j * 1 + 0, none⟩) (by rw [← HB.out]; exact hlt)).trans (hcell 0 _ rfl)
      simpa using this
    have i0 : w1.cell? ⟨b0, 0, none⟩ = some (.slice (some ⟨b, off, none⟩) l.length c) := M1.out.cellat b0 0 rfl
    have i1 : w1.cell? ⟨b0, 1, none⟩ = some (.int .i64 s) := M1.out.cellat b0 1 rfl
    have e1 : IntKind.u32.wrap (q : Int) = (q : Int) := by rw [IntKind.wrap_u32]; omega
    have e2 : IntKind.i64.wrap (q : Int) = (q : Int) := by rw [IntKind.wrap_i64]; omega
    have e3 : IntKind.i64.wrap (j : Int) = (j : Int) := by rw [IntKind.wrap_i64]; omega
    have hne : (l.length : Int) ≠ 0 := by omega
    have e4 : h.tmod 64 = h % 64 := Int.tmod_eq_emod_of_nonneg h0
    have e5 := Int.emod_nonneg h (show (64 : Int) ≠ 0 by decide)
    have e6 := Int.emod_lt_of_pos h (show (0 : Int) < 64 by decide)
    obtain ⟨r, hr⟩ : ∃ r, h.tmod 64 = r := ⟨_, rfl⟩
    have hr0 : 0 ≤ r := by omega
    have hr1 : r < 64 := by omega
    clear e4 e5 e6 hcell hrow hlt hx HR
    go_wp2_with fail
    go_quiet (fail)
    rename_i nq
    have M2 := Lib.hid (M1.out.stay (below_drewN (Below.refl _ _) nq))
    obtain ⟨W2, hW2⟩ : ∃ W2, w1.drewN nq = W2 := ⟨_, rfl⟩
    rw [hW2] at M2 ⊢
    clear hW2 i0 i1 c0 hq hj e1 e2 e3 M1
    have i1 : W2.cell? ⟨b0, 1, none⟩ = some (.int .i64 s) := M2.out.cellat b0 1 rfl
    have MZ := Lib.hid M2.out.bel
    clear M2
    go_wp2_with fail
    refine (has02_any x r hr0 hr1 _).mono ?_
    rintro e w3 ⟨⟨b1, rfl⟩, rfl⟩
    go_wp2_with fail
    refine (shifted02_any h s h0 h1 (by omega) s2 _).mono ?_
    rintro e w4 ⟨⟨p, rfl, hp0, hp1⟩, rfl⟩
    have e4 : p.tmod 64 = p % 64 := Int.tmod_eq_emod_of_nonneg hp0
    have e5 := Int.emod_nonneg p (show (64 : Int) ≠ 0 by decide)
    have e6 := Int.emod_lt_of_pos p (show (0 : Int) < 64 by decide)
    obtain ⟨r2, hr2⟩ : ∃ r2, p.tmod 64 = r2 := ⟨_, rfl⟩
    have hr20 : 0 ≤ r2 := by omega
    have hr21 : r2 < 64 := by omega
    clear e4 e5 e6
    go_wp2_with fail
    refine (has02_any x _ (by first | exact hr20 | omega) (by first | exact hr21 | omega) _).mono ?_
    rintro e w5 ⟨⟨b2, rfl⟩, rfl⟩
    cases b1 <;> go_wp2
    all_goals
      go_ret
      exact ⟨⟨_, rfl⟩, by rw [HB.out]; exact MZ.out⟩

set_option maxRecDepth 100000 in
set_option maxHeartbeats 4000000 in
theorem seen07_some (s : Sy) (w : World) : Calls Try.prog 83 #[.agg (symA s)] w (BoolE w) := by
  rw [show symA s = #[.string s.nm, .string s.ver, .bool s.old, .int .i64 s.kind, .bool s.weak, .int .i64 s.vis, .bool s.dfd, .int .i64 s.val, .int .i64 s.sz] from rfl]
  have M0 := Lib.hid ((Has.start (Below.refl w.heap.size w) (Nat.le_refl _)).newcel 103 #[.string s.nm, .string s.ver, .bool s.old, .int .i64 s.kind, .bool s.weak, .int .i64 s.vis, .bool s.dfd, .int .i64 s.val, .int .i64 s.sz])
  go_enter Try.func83, Try.ntmps83
  go_upto_region 1 with (fail)
  obtain ⟨W, hW⟩ : ∃ W, (w.alloc (.cells #[.string s.nm, .string s.ver, .bool s.old, .int .i64 s.kind, .bool s.weak, .int .i64 s.vis, .bool s.dfd, .int .i64 s.val, .int .i64 s.sz] 103)) = W := ⟨_, rfl⟩
  rw [hW] at M0 ⊢
  clear hW
  generalize hB : w.heap.size = b0 at M0 ⊢
  have HB := Lib.hid hB
  clear hB
  have g0 : W.cell? ⟨b0, 0, none⟩ = some (.string s.nm) := M0.out.cellat b0 0 rfl
  have g1 : W.cell? ⟨b0, 1, none⟩ = some (.string s.ver) := M0.out.cellat b0 1 rfl
  have g2 : W.cell? ⟨b0, 2, none⟩ = some (.bool s.old) := M0.out.cellat b0 2 rfl
  have g3 : W.cell? ⟨b0, 3, none⟩ = some (.int .i64 s.kind) := M0.out.cellat b0 3 rfl
  have g4 : W.cell? ⟨b0, 4, none⟩ = some (.bool s.weak) := M0.out.cellat b0 4 rfl
  have g5 : W.cell? ⟨b0, 5, none⟩ = some (.int .i64 s.vis) := M0.out.cellat b0 5 rfl
  have g6 : W.cell? ⟨b0, 6, none⟩ = some (.bool s.dfd) := M0.out.cellat b0 6 rfl
  have g7 : W.cell? ⟨b0, 7, none⟩ = some (.int .i64 s.val) := M0.out.cellat b0 7 rfl
  have g8 : W.cell? ⟨b0, 8, none⟩ = some (.int .i64 s.sz) := M0.out.cellat b0 8 rfl
  have MZ := Lib.hid M0.out.bel
  clear M0
  obtain ⟨nm, ver, old, kind, weak, vis, dfd, val, sz⟩ := s
  simp only at *
  cases dfd <;> go_wp2
  all_goals
    go_ret
    exact ⟨⟨_, rfl⟩, by rw [HB.out]; exact MZ.out⟩

set_option maxRecDepth 100000 in
set_option maxHeartbeats 4000000 in
theorem stands08_any (A : Option Addr) (l : List Int) (c : Nat) (x : Int) (P : Nat → Prop) (w : World) (hr : RowsAt 1 intC w P (.slice A l.length c) l) : Calls Try.prog 60 #[.slice A l.length c, .int .i64 x] w fun e w' => (∃ n : Int, e = .returned (.int .i64 n)) ∧ w = w' := by
  obtain ⟨A', c', hA', hc, hm, hrow⟩ := hr
  simp only [Value.slice.injEq, true_and] at hA'
  obtain ⟨rfl, rfl⟩ := hA'
  have HROW := Lib.hid hrow
  clear hrow
  unfold maxLen at hm
  go_enter Try.func60, Try.ntmps60
  go_wp2
  go_loop [5, 6] (fun n i => ∃ (k : Nat) (q : Int), k ≤ l.length ∧ i = .int .i64 k ∧ n = .int .i64 q ∧ 0 ≤ q ∧ q ≤ k) (fun _ i => l.length - (intOf i).toNat)
  case atStart => exact ⟨0, 0, Nat.zero_le _, rfl, rfl, by decide, by decide⟩
  case round =>
    obtain ⟨k, q, hk, rfl, rfl, hq0, hq1⟩ := hrel
    by_cases hkn : k < l.length
    · obtain ⟨y, hy⟩ : ∃ y, l[k]? = some y := ⟨_, List.getElem?_eq_getElem hkn⟩
      obtain ⟨b, off, rfl, _, hlt, hcell⟩ := HROW.out k y hy
      have c0 : w.cell? ⟨b, off + k, none⟩ = some (.int .i64 y) := by
        have := hcell 0 _ rfl
        simpa using this
      clear hcell hlt hy
      by_cases he : y = x
      · subst he
        go_wp2
        go_round
        case rel => exact ⟨k + 1, q + 1, by omega, by go_num, by go_num, by omega, by omega⟩
        case measure => simp [intOf]; omega
      · go_wp2
        go_round
        case rel => exact ⟨k + 1, q, by omega, by go_num, rfl, by omega, by omega⟩
        case measure => simp [intOf]; omega
    · go_wp2
      go_ret
      exact ⟨⟨_, rfl⟩, rfl⟩

end Go.Proofs.Ytlkelfaokbdddaa
