/-
  Layer 7: the document's Right answers something.
  Conditions: none. (My own text.)
-/
import Derived.Test.YtlkelfaokbdddaaImd
import Derived.Test.YtlkelfaokbdddaaImc
import Derived.Test.YtlkelfaokbdddaaSyw
namespace Go.Proofs.Ytlkelfaokbdddaa
open Go.RowKit Spm
set_option linter.unusedVariables false
set_option linter.unusedSimpArgs false

set_option maxRecDepth 100000 in
set_option maxHeartbeats 4000000 in
theorem right07_some (s : Sy) (hn : s.nm.size ≤ maxLen) (hv : s.ver.size ≤ maxLen) (w : World) : Calls Try.prog 56 #[.agg (symA s)] w (BoolE w) := by
  have HN := Lib.hid hn
  have HV := Lib.hid hv
  clear hn hv
  rw [show symA s = #[.string s.nm, .string s.ver, .bool s.old, .int .i64 s.kind, .bool s.weak, .int .i64 s.vis, .bool s.dfd, .int .i64 s.val, .int .i64 s.sz] from rfl]
  have M0 := Lib.hid ((Has.start (Below.refl w.heap.size w) (Nat.le_refl _)).newcel 103 #[.string s.nm, .string s.ver, .bool s.old, .int .i64 s.kind, .bool s.weak, .int .i64 s.vis, .bool s.dfd, .int .i64 s.val, .int .i64 s.sz])
  go_enter Try.func56, Try.ntmps56
  go_upto_region 1 with (fail)
  obtain ⟨W, hW⟩ : ∃ W, (w.alloc (.cells #[.string s.nm, .string s.ver, .bool s.old, .int .i64 s.kind, .bool s.weak, .int .i64 s.vis, .bool s.dfd, .int .i64 s.val, .int .i64 s.sz] 103)) = W := ⟨_, rfl⟩
  rw [hW] at M0 ⊢
  clear hW
  generalize hB : w.heap.size = b0 at M0 ⊢
  have HB := Lib.hid hB
  clear hB
  have g0 : W.cell? ⟨b0, 0, none⟩ = some (.string s.nm) := M0.out.cellat b0 0 rfl
  have g1 : W.cell? ⟨b0, 1, none⟩ = some (.string s.ver) := M0.out.cellat b0 1 rfl
  have g2 : W.cell? ⟨b0, 2, none⟩ = some (.bool s.old) := M0.out.cellat b0 2 rfl
  have g3 : W.cell? ⟨b0, 3, none⟩ = some (.int .i64 s.kind) := M0.out.cellat b0 3 rfl
  have g4 : W.cell? ⟨b0, 4, none⟩ = some (.bool s.weak) := M0.out.cellat b0 4 rfl
  have g5 : W.cell? ⟨b0, 5, none⟩ = some (.int .i64 s.vis) := M0.out.cellat b0 5 rfl
  have g6 : W.cell? ⟨b0, 6, none⟩ = some (.bool s.dfd) := M0.out.cellat b0 6 rfl
  have g7 : W.cell? ⟨b0, 7, none⟩ = some (.int .i64 s.val) := M0.out.cellat b0 7 rfl
  have g8 : W.cell? ⟨b0, 8, none⟩ = some (.int .i64 s.sz) := M0.out.cellat b0 8 rfl
  have MZ := Lib.hid M0.out.bel
  clear M0
  obtain ⟨nm, ver, old, kind, weak, vis, dfd, val, sz⟩ := s
  simp only at *
  have C1 := Lib.hid (refName_any nm HN.out W)
  have C2 := Lib.hid (refName_any ver HV.out W)
  clear HN HV
  generalize nameS nm = x1 at C1
  generalize nameS ver = x2 at C2
  cases x1 <;> cases x2 <;> (go_wp2_with fail; refine (C1.out).mono ?_; rintro e w1 ⟨rfl, rfl⟩; go_wp2_with fail)
  all_goals first
    | (go_ret
       exact ⟨⟨_, rfl⟩, by rw [HB.out]; exact MZ.out⟩)
    | (refine (C2.out).mono ?_
       rintro e w1 ⟨rfl, rfl⟩
       go_wp2_with fail
       all_goals
         go_ret
         exact ⟨⟨_, rfl⟩, by rw [HB.out]; exact MZ.out⟩)

end Go.Proofs.Ytlkelfaokbdddaa
