/-
  Layer 7: SymverPrints's walk.
  Conditions: none. (My own text.)
-/
import Derived.Test.YthajdklmklaelaaSyurr
import Derived.Test.YthajdklmklaelaaSyuu
import Derived.Test.YthajdklmklaelaaSyh
namespace Go.Proofs.Ythajdklmklaelaa
open Go.RowKit
set_option linter.unusedVariables false
set_option linter.unusedSimpArgs false

set_option maxHeartbeats 2000000 in
theorem prints_walk (n v : ByteArray) (o wk d : Bool) (k i a s : Int) (hn : n.size ≤ 140737488351232) (hv : v.size ≤ 140737488351232) (w : World) :
    Calls Try.prog 8 #[.agg #[.string n, .string v, .bool o, .int .i64 k, .bool wk, .int .i64 i, .bool d, .int .i64 a, .int .i64 s]] w fun e w' => e = .returned (.bool true) ∧ Below w.heap.size w w' := by
  have A1 := Lib.hid awake_any
  have ln : n.size ≤ maxLen := by unfold maxLen; omega
  have lv : v.size ≤ maxLen := by unfold maxLen; omega
  have c0 := fun w : World => right_any n v o wk d k i a s ln lv w
  have c1 := fun w : World => print_any n v o wk d k i a s hn hv w
  have c2 := fun w : World => refPrint_any n v o wk d k i a s hn hv w
  have c3 := fun w : World => refRight_any n v o wk d k i a s ln lv w
  have c4 := fun w : World => seen_any n v o wk d k i a s w
  have c5 := fun w : World => refSeen_any n v o wk d k i a s w
  generalize printS n v o d = ps at c1 c2
  generalize seenS d i = se at c4 c5
  cases hr : rightS n v o d k i a s
  all_goals
    rw [hr] at c0 c3
    simp only [Bool.false_eq_true, if_true, if_false] at c0
    clear hr ln lv hn hv
    have C0 := Lib.hid c0; clear c0
    have C1 := Lib.hid c1; clear c1
    have C2 := Lib.hid c2; clear c2
    have C3 := Lib.hid c3; clear c3
    have C4 := Lib.hid c4; clear c4
    have C5 := Lib.hid c5; clear c5
    go_enter Try.func8, Try.ntmps8
    go_wp2_with fail
    refine (A1.out _).mono ?_
    rintro e w1 ⟨rfl, hb1⟩
    have r1 := row_new hb1
    have l1 : w.heap.size < w1.heap.size := by have := hb1.size; simp at this; omega
    have g1 := below_box hb1
    clear hb1
    go_wp2_with fail
    refine (C0.out _).mono ?_
    rintro e w2 ⟨rfl, hb2⟩
    have r2 := row_stay hb2 r1 l1
    have g2 := g1.trans (hb2.mono g1.size)
    have l2 : w.heap.size < w2.heap.size := Nat.lt_of_lt_of_le l1 hb2.size
    clear r1 hb2
    go_wp2_with fail
    have k1 : ∀ (x : Calm w2) (k_ : Nat), x.now.cell? ⟨w.heap.size, k_, none⟩ = (#[.string n, .string v, .bool o, .int .i64 k, .bool wk, .int .i64 i, .bool d, .int .i64 a, .int .i64 s] : Array Value)[k_]? := fun x k_ => (x.cell _ _ l2).trans (r2 k_)
    have HB := Lib.hid g2
    clear r2 g2 g1
    refine wp_region_calm (by kernel_rfl) (by kernel_rfl) ?_
    repeat (first
      | go_big_quiet_skip
      | (go_big_quiet_want
         go_big_quiet_op
         first
           | go_big_quiet_on
           | (apply Exists.intro
              refine ⟨fun _ => ?_, ?_⟩
              · first
                  | (go_at_call 21; exact calm_call (C1.out _))
                  | (go_at_call 22; exact calm_call (C2.out _))
                  | (go_at_call 23; exact calm_call (C3.out _))
                  | (go_at_call 16; exact calm_call (C4.out _))
                  | (go_at_call 24; exact calm_call (C5.out _))
              go_big_quiet_on)))
    refine wpQuiet_nil ?_
    intro _ hw'
    obtain ⟨⟨w5, hb5⟩, rfl⟩ := hw'
    go_wp2
    go_ret
    exact ⟨by simp, HB.out.trans (hb5.mono HB.out.size)⟩
end Go.Proofs.Ythajdklmklaelaa
