/-
  RelocLast: the walk.
  Conditions: none. (My own text.)
-/
import Derived.Test.YtpononkgeeahdaaRelb
import Derived.Test.YtpononkgeeahdaaRel3
namespace Go.Proofs.Ytpononkgeeahdaa
open Go.RowKit Spm
set_option linter.unusedVariables false
set_option linter.unusedSimpArgs false

set_option maxRecDepth 100000 in
set_option maxHeartbeats 2000000 in
theorem last_walk (a b : Int) (ha : I64 a) (hb : I64 b) (w : World) : Calls Try.prog 6 #[.int .i64 a, .int .i64 b] w fun e w' => e = .returned (.bool true) ∧ Below w.heap.size w w' := by
  have A1 := Lib.hid awake_any
  have P1 := Lib.hid rl_1
  have P2 := Lib.hid (rl_apply a b ha hb)
  have P3 := Lib.hid (rl_word a b ha)
  have P4 := Lib.hid (rl_set2 b a)
  have HA := Lib.hid ha.2
  have HB := Lib.hid hb.2
  clear ha hb
  go_enter Try.func6, Try.ntmps6
  go_wp2_with fail
  refine (A1.out _).mono ?_
  rintro e w1 ⟨rfl, h1⟩
  have H1 := Lib.hid h1; clear h1
  go_wp2_with fail
  refine (own_new (Has.start H1.out H1.out.size)).mono ?_
  rintro e w2 ⟨s, rfl, m2⟩
  have M2 := Lib.hid m2; clear m2
  go_wp2_with fail
  have C3 := Lib.hid (own_mapAt M2.out 4096 64 0)
  rw [P1.out] at C3
  refine (C3.out).mono ?_
  rintro e w3 ⟨rfl, m3⟩
  have M3 : Hid (Has w.heap.size w w3 (Star (Sp s rl) Emp)) := Lib.hid m3; clear m3 C3 M2
  go_wp2_with fail
  have m4 := (M3.out.row 4 relC (fun _ => rfl) [rr8, rr8] (by show 2 ≤ maxLen; decide) #[.int .i64 8, .int .i64 0, .int .i64 0, .int .i64 0, .int .i64 8, .int .i64 0, .int .i64 0, .int .i64 0] 24 rfl).row 8 fctC (fun _ => rfl) [rfa a, rfa b] (by show 2 ≤ maxLen; decide) #[.int .i64 0, .int .i64 a, .int .i64 0, .int .i64 0, .int .i64 0, .int .i64 0, .bool false, .bool false, .int .i64 0, .int .i64 b, .int .i64 0, .int .i64 0, .int .i64 0, .int .i64 0, .bool false, .bool false] 26 rfl
  simp only [World.size_alloc] at m4
  have M4 := Lib.hid m4.r3; clear m4 M3
  have C5 := Lib.hid (own_apply M4.out 4096 _ _ [rr8, rr8] [rfa a, rfa b] (by intro f hf; simp only [List.mem_cons, List.not_mem_nil, or_false] at hf; rcases hf with rfl | rfl; exact HA.out; exact HB.out) (Away.right Away.own) Away.own)
  rw [P2.out, P4.out] at C5
  refine (C5.out).mono ?_
  rintro e w5 ⟨rfl, m5⟩
  have M5 := Lib.hid m5; clear m5 M4 C5
  have C6 := Lib.hid (own_peekWord M5.out 4104 (by decide))
  rw [P3.out] at C6
  go_wp2_with fail
  refine (C6.out).mono ?_
  rintro e w6 ⟨rfl, m6⟩
  have M6 := Lib.hid m6; clear m6 M5 C6
  have C7 := Lib.hid (own_apply M6.out 4096 _ _ [rr8, rr8] [] (by intro f hf; simp at hf) (Away.right Away.own) Away.nil)
  rw [show ∀ L, applyS L 4096 [rr8, rr8] [] = (L, 1) from fun L => by simp [applyS]] at C7
  go_wp2_with fail
  refine (C7.out).mono ?_
  rintro e w7 ⟨rfl, m7⟩
  have HB7 := Lib.hid m7.bel; clear m7 M6 C7
  go_wp2
  go_ret
  exact ⟨by simp, HB7.out⟩
end Go.Proofs.Ytpononkgeeahdaa
