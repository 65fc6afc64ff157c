/-
  Layers 2 and 8: the document's hash, powers, bits; a filter that is right.
  Conditions: none. (My own text.)
-/
import Derived.Test.YtlkelfaokbdddaaIma
namespace Go.Proofs.Ytlkelfaokbdddaa
open Go.RowKit Spm
set_option linter.unusedVariables false
set_option linter.unusedSimpArgs false

set_option maxRecDepth 100000 in
set_option maxHeartbeats 4000000 in
theorem power02_any (n : Int) (h0 : 0 ≤ n) (h1 : n < 64) (w : World) : Calls Try.prog 91 #[.int .u32 n] w fun e w' => (∃ p : Int, e = .returned (.int .u64 p) ∧ 0 < p ∧ p < 18446744073709551616) ∧ w = w' := by
  go_enter Try.func91, Try.ntmps91
  go_wp2
  go_loop [3, 4] (fun p i => ∃ (k : Nat) (q : Int), (k : Int) ≤ n ∧ i = .int .u32 k ∧ p = .int .u64 q ∧ Hid (q = ((2 ^ k : Nat) : Int))) (fun _ i => n.toNat - (intOf i).toNat)
  case atStart => exact ⟨0, 1, h0, rfl, rfl, Lib.hid (by simp)⟩
  case round =>
    obtain ⟨k, q, hk, rfl, rfl, HQ⟩ := hrel
    have hq0 : 0 < q := by
      rw [HQ.out]
      have : 0 < 2 ^ k := Nat.pow_pos (by decide)
      omega
    by_cases hlt : (k : Int) < n
    · have hq1 : q ≤ 4611686018427387904 := by
        rw [HQ.out]
        have : 2 ^ k ≤ 2 ^ 62 := Nat.pow_le_pow_right (by decide) (by omega)
        have e : (2 : Nat) ^ 62 = 4611686018427387904 := by decide
        omega
      have H2 : Hid (q * 2 = ((2 ^ (k + 1) : Nat) : Int)) := Lib.hid (by rw [HQ.out, Nat.pow_succ]; simp)
      have e1 : IntKind.u64.wrap (q * 2) = q * 2 := by rw [IntKind.wrap_u64]; omega
      go_wp2
      go_round
      case rel => exact ⟨k + 1, q * 2, by omega, by go_num, by first | rfl | rw [e1], H2⟩
      case measure => simp [intOf]; omega
    · have hq1 : q ≤ 9223372036854775808 := by
        rw [HQ.out]
        have : 2 ^ k ≤ 2 ^ 63 := Nat.pow_le_pow_right (by decide) (by omega)
        have e : (2 : Nat) ^ 63 = 9223372036854775808 := by decide
        omega
      go_wp2
      go_ret
      exact ⟨⟨q, rfl, hq0, by omega⟩, rfl⟩

set_option maxRecDepth 100000 in
set_option maxHeartbeats 4000000 in
theorem shifted02_any (h n : Int) (h0 : 0 ≤ h) (h1 : h < 4294967296) (n0 : 0 ≤ n) (n1 : n ≤ 31) (w : World) : Calls Try.prog 85 #[.int .u32 h, .int .i64 n] w fun e w' => (∃ p : Int, e = .returned (.int .u32 p) ∧ 0 ≤ p ∧ p < 4294967296) ∧ w = w' := by
  go_enter Try.func85, Try.ntmps85
  go_wp2
  go_loop [0, 5] (fun p i => ∃ (k : Nat) (q : Int), (k : Int) ≤ n ∧ i = .int .i64 k ∧ p = .int .u32 q ∧ 0 ≤ q ∧ q < 4294967296) (fun _ i => n.toNat - (intOf i).toNat)
  case atStart => exact ⟨0, h, n0, rfl, rfl, h0, h1⟩
  case round =>
    obtain ⟨k, q, hk, rfl, rfl, hq0, hq1⟩ := hrel
    by_cases hlt : (k : Int) < n
    · have e1 : IntKind.u32.wrap (q.tdiv 2) = q.tdiv 2 := by rw [Int.tdiv_eq_ediv_of_nonneg hq0, IntKind.wrap_u32]; omega
      have e2 : 0 ≤ q.tdiv 2 ∧ q.tdiv 2 < 4294967296 := by rw [Int.tdiv_eq_ediv_of_nonneg hq0]; omega
      have E1 := Lib.hid e1
      have E2 := Lib.hid e2
      clear e1 e2
      go_wp2
      go_round
      case rel => exact ⟨k + 1, q / 2, by omega, by go_num, rfl, by omega, by omega⟩
      case measure => simp [intOf]; omega
    · go_wp2
      go_ret
      exact ⟨⟨q, rfl, hq0, hq1⟩, rfl⟩

set_option maxRecDepth 100000 in
set_option maxHeartbeats 4000000 in
theorem has02_any (x n : Int) (h0 : 0 ≤ n) (h1 : n < 64) (w : World) : Calls Try.prog 84 #[.int .u64 x, .int .u32 n] w fun e w' => (∃ b, e = .returned (.bool b)) ∧ w = w' := by
  go_enter Try.func84, Try.ntmps84
  go_wp2_with fail
  refine (power02_any n h0 h1 w).mono ?_
  rintro e w1 ⟨⟨p, rfl, hp0, hp1⟩, rfl⟩
  have hne : p ≠ 0 := by omega
  go_wp2
  go_ret
  exact ⟨⟨_, rfl⟩, rfl⟩

set_option maxRecDepth 100000 in
set_option maxHeartbeats 4000000 in
theorem more02_any (h : Int) (h0 : 0 ≤ h) (h1 : h < 4294967296) (s : ByteArray) (hs : s.size ≤ maxLen) (w : World) : Calls Try.prog 86 #[.int .u32 h, .string s] w fun e w' => (∃ p : Int, e = .returned (.int .u32 p) ∧ 0 ≤ p ∧ p < 4294967296) ∧ w = w' := by
  unfold maxLen at hs
  go_enter Try.func86, Try.ntmps86
  go_wp2
  go_loop [5, 6] (fun p i => ∃ (k : Nat) (q : Int), k ≤ s.size ∧ i = .int .i64 k ∧ p = .int .u64 q ∧ 0 ≤ q ∧ q < 4294967296) (fun _ i => s.size - (intOf i).toNat)
  case atStart => exact ⟨0, h, Nat.zero_le _, rfl, by first | rfl | (rw [show IntKind.u64.wrap h = h from by rw [IntKind.wrap_u64]; omega]), h0, h1⟩
  case round =>
    obtain ⟨k, q, hk, rfl, rfl, hq0, hq1⟩ := hrel
    by_cases hlt : k < s.size
    · have hb : (s[k].toNat : Int) < 256 := by have := s[k].toNat_lt; omega
      go_wp2
      go_round
      case rel => exact ⟨k + 1, _, by omega, by go_num, rfl, by first | exact Int.emod_nonneg _ (by decide) | (rw [IntKind.wrap_u64]; omega), by first | exact Int.emod_lt_of_pos _ (by decide) | (rw [IntKind.wrap_u64]; omega)⟩
      case measure => simp [intOf]; omega
    · go_wp2
      go_ret
      exact ⟨⟨q, by first | rfl | (rw [show IntKind.u32.wrap q = q from by rw [IntKind.wrap_u32]; omega]), hq0, hq1⟩, rfl⟩

set_option maxRecDepth 100000 in
set_option maxHeartbeats 4000000 in
theorem hash02_any (s : ByteArray) (hs : s.size ≤ maxLen) (w : World) : Calls Try.prog 63 #[.string s] w fun e w' => (∃ p : Int, e = .returned (.int .u32 p) ∧ 0 ≤ p ∧ p < 4294967296) ∧ w = w' := by
  go_enter Try.func63, Try.ntmps63
  go_wp2_with fail
  refine (more02_any 5381 (by decide) (by decide) s hs w).mono ?_
  rintro e w1 ⟨⟨p, rfl, hp0, hp1⟩, rfl⟩
  go_wp2
  go_ret
  exact ⟨⟨p, rfl, hp0, hp1⟩, rfl⟩

/-- It answers some bool; where it is true, q. -/
def BoolQ (q : Prop) (e : Ending) : Prop := ∃ b, e = .returned (.bool b) ∧ (b = true → q)

set_option maxRecDepth 100000 in
set_option maxHeartbeats 4000000 in
theorem words02_any (n : Int) (w : World) : Calls Try.prog 82 #[.int .i64 n] w fun e w' => BoolQ (1 ≤ n) e ∧ w = w' := by
  go_enter Try.func82, Try.ntmps82
  go_wp2
  go_loop [3] (fun i => ∃ q : Int, i = .int .i64 q ∧ 1 ≤ q ∧ q ≤ 128) (fun i => 128 - (intOf i).toNat)
  case atStart => exact ⟨1, rfl, by decide, by decide⟩
  case round =>
    obtain ⟨q, rfl, hq0, hq1⟩ := hrel
    by_cases hlt : q ≤ 64
    · by_cases he : n = q
      · subst he
        go_wp2
        go_ret
        exact ⟨⟨_, rfl, fun _ => by first | exact hq0 | trivial⟩, rfl⟩
      · go_wp2
        go_round
        case rel => exact ⟨q * 2, by go_num, by omega, by omega⟩
        case measure => simp [intOf]; omega
    · go_wp2
      go_ret
      exact ⟨⟨_, rfl, fun h => by cases h⟩, rfl⟩

set_option maxRecDepth 100000 in
set_option maxHeartbeats 4000000 in
theorem right02_any (A : Option Addr) (n c : Nat) (s : Int) (hn : n ≤ maxLen) (w : World) : Calls Try.prog 58 #[.agg #[.slice A n c, .int .i64 s]] w fun e w' => BoolQ (1 ≤ n ∧ 1 ≤ s ∧ s ≤ 31) e ∧ Below w.heap.size w w' := by
  unfold maxLen at hn
  have M0 := Lib.hid ((Has.start (Below.refl w.heap.size w) (Nat.le_refl _)).newcel 31 #[.slice A n c, .int .i64 s])
  go_enter Try.func58, Try.ntmps58
  go_upto_region 1 with (fail)
  obtain ⟨W, hW⟩ : ∃ W, (w.alloc (.cells #[.slice A n c, .int .i64 s] 31)) = W := ⟨_, rfl⟩
  rw [hW] at M0 ⊢
  clear hW
  generalize hB : w.heap.size = b0 at M0 ⊢
  have i0 : W.cell? ⟨b0, 0, none⟩ = some (.slice A n c) := M0.out.cellat b0 0 rfl
  have i1 : W.cell? ⟨b0, 1, none⟩ = some (.int .i64 s) := M0.out.cellat b0 1 rfl
  have HB := Lib.hid hB
  clear hB
  go_wp2_with fail
  refine (words02_any (n : Int) W).mono ?_
  rintro e w1 ⟨⟨b, rfl, hb⟩, rfl⟩
  have MZ := Lib.hid M0.out.bel
  cases b with
  | false =>
    clear hb
    go_wp2
    go_ret
    exact ⟨⟨_, rfl, fun h => by cases h⟩, by rw [HB.out]; exact MZ.out⟩
  | true =>
    have h1 := hb rfl
    clear hb
    by_cases s1 : (1 : Int) ≤ s
    · by_cases s2 : s ≤ (31 : Int)
      · go_wp2
        go_ret
        exact ⟨⟨_, rfl, fun _ => ⟨by omega, s1, s2⟩⟩, by rw [HB.out]; exact MZ.out⟩
      · go_wp2
        go_ret
        exact ⟨⟨_, rfl, fun h => by first | cases h | (simp at h; omega)⟩, by rw [HB.out]; exact MZ.out⟩
    · go_wp2
      go_ret
      exact ⟨⟨_, rfl, fun h => by first | cases h | (simp at h; omega)⟩, by rw [HB.out]; exact MZ.out⟩

set_option maxRecDepth 100000 in
set_option maxHeartbeats 4000000 in
theorem home08_any (s : ByteArray) (hs : s.size ≤ maxLen) (m : Int) (h0 : 1 ≤ m) (h1 : m ≤ 9223372036854775807) (w : World) : Calls Try.prog 61 #[.string s, .int .i64 m] w fun e w' => (∃ p : Int, e = .returned (.int .i64 p) ∧ 0 ≤ p ∧ p < m) ∧ w = w' := by
  go_enter Try.func61, Try.ntmps61
  go_wp2_with fail
  refine (hash02_any s hs w).mono ?_
  rintro e w1 ⟨⟨p, rfl, hp0, hp1⟩, rfl⟩
  have hne : m ≠ 0 := by omega
  have e1 : IntKind.u64.wrap p = p := by rw [IntKind.wrap_u64]; omega
  have e2 : IntKind.u64.wrap m = m := by rw [IntKind.wrap_u64]; omega
  have e3 : p.tmod m = p % m := Int.tmod_eq_emod_of_nonneg hp0
  have e4 := Int.emod_nonneg p hne
  have e5 := Int.emod_lt_of_pos p (show 0 < m by omega)
  obtain ⟨r, hr⟩ : ∃ r, p.tmod m = r := ⟨_, rfl⟩
  have hr0 : 0 ≤ r := by omega
  have hr1 : r < m := by omega
  have e6 : IntKind.u64.wrap r = r := by rw [IntKind.wrap_u64]; omega
  have e7 : IntKind.i64.wrap r = r := by rw [IntKind.wrap_i64]; omega
  clear e3 e4 e5
  go_wp2
  go_ret
  exact ⟨⟨r, by first | rfl | simp [e1, e2, e6, e7, hr], hr0, hr1⟩, rfl⟩
end Go.Proofs.Ytlkelfaokbdddaa
