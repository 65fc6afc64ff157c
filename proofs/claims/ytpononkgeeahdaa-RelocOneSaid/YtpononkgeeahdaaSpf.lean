/-
  Layer 5: word and bytesOf of the program: eight bytes as a number, the lowest first.
  Conditions: none. (My own text.)
-/
import Derived.Test.YtpononkgeeahdaaSpe
import Derived.Laws.MakeOwn
namespace Go.Proofs.Ytpononkgeeahdaa
open Go.RowKit Spm
set_option linter.unusedVariables false
set_option linter.unusedSimpArgs false

theorem bits_or_u64_nat (a b : Nat) (ha : a < 18446744073709551616) (hb : b < 18446744073709551616) : bits .or .u64 (a : Int) (b : Int) = ((a ||| b : Nat) : Int) := by
  have hx : a ||| b < 2 ^ 64 := Nat.or_lt_two_pow (by omega) (by omega)
  have h1 : (BitVec.ofInt 64 (a : Int)).toNat = a := by
    rw [BitVec.ofInt_natCast, BitVec.toNat_ofNat]; exact Nat.mod_eq_of_lt (by omega)
  have h2 : (BitVec.ofInt 64 (b : Int)).toNat = b := by
    rw [BitVec.ofInt_natCast, BitVec.toNat_ofNat]; exact Nat.mod_eq_of_lt (by omega)
  show IntKind.u64.wrap ((BitVec.ofInt 64 (a : Int) ||| BitVec.ofInt 64 (b : Int)).toNat : Int) = _
  rw [BitVec.toNat_or, h1, h2, IntKind.wrap_u64]
  omega
theorem or_at (m y : Nat) (k : Nat) (hm : m < 2 ^ k) (hy : y < 256) (hk : k ≤ 56) : bits BinOp.or IntKind.u64 (m : Int) ((y * 2 ^ k : Nat) : Int) = ((m + y * 2 ^ k : Nat) : Int) := by
  have h2 : (2 : Nat) ^ k ≤ 2 ^ 56 := Nat.pow_le_pow_right (by decide) hk
  have e : y * 2 ^ k ||| m = y * 2 ^ k + m := by rw [← Nat.shiftLeft_eq, Nat.shiftLeft_add_eq_or_of_lt hm]
  have hb : y * 2 ^ k + m < 18446744073709551616 := by
    have : y * 2 ^ k ≤ 255 * 2 ^ k := Nat.mul_le_mul_right _ (by omega)
    have : (2 : Nat) ^ 56 = 72057594037927936 := by decide
    omega
  rw [bits_or_u64_nat _ _ (by omega) (by omega), Nat.or_comm, e, Nat.add_comm]

/-- The number of bytes, the lowest first. -/
def leS : List UInt8 → Nat
  | [] => 0
  | b :: l => b.toNat + 256 * leS l
/-- A word. -/
def wordS (l : List UInt8) : Int := wrap64 (leS l)

set_option maxHeartbeats 2000000 in
set_option maxRecDepth 100000 in
theorem word_walk (b off c : Nat) (x0 x1 x2 x3 x4 x5 x6 x7 : UInt8) (w : World) (hc : ∀ j x, [x0, x1, x2, x3, x4, x5, x6, x7][j]? = some x → w.cell? ⟨b, off + j, none⟩ = some (byC x)) :
    Calls Try.prog 28 #[.slice (some ⟨b, off, none⟩) 8 c] w fun e w' => e = .returned (.int .i64 (wordS [x0, x1, x2, x3, x4, x5, x6, x7])) ∧ w = w' := by
  have c0 : w.cell? ⟨b, off, none⟩ = some (.int .u8 x0.toNat) := hc 0 x0 rfl
  have c1 : w.cell? ⟨b, off + 1, none⟩ = some (.int .u8 x1.toNat) := hc 1 x1 rfl
  have c2 : w.cell? ⟨b, off + 2, none⟩ = some (.int .u8 x2.toNat) := hc 2 x2 rfl
  have c3 : w.cell? ⟨b, off + 3, none⟩ = some (.int .u8 x3.toNat) := hc 3 x3 rfl
  have c4 : w.cell? ⟨b, off + 4, none⟩ = some (.int .u8 x4.toNat) := hc 4 x4 rfl
  have c5 : w.cell? ⟨b, off + 5, none⟩ = some (.int .u8 x5.toNat) := hc 5 x5 rfl
  have c6 : w.cell? ⟨b, off + 6, none⟩ = some (.int .u8 x6.toNat) := hc 6 x6 rfl
  have c7 : w.cell? ⟨b, off + 7, none⟩ = some (.int .u8 x7.toNat) := hc 7 x7 rfl
  have g0 : x0.toNat < 256 := x0.toNat_lt
  have g1 : x1.toNat < 256 := x1.toNat_lt
  have g2 : x2.toNat < 256 := x2.toNat_lt
  have g3 : x3.toNat < 256 := x3.toNat_lt
  have g4 : x4.toNat < 256 := x4.toNat_lt
  have g5 : x5.toNat < 256 := x5.toNat_lt
  have g6 : x6.toNat < 256 := x6.toNat_lt
  have g7 : x7.toNat < 256 := x7.toNat_lt
  unfold wordS leS leS leS leS leS leS leS leS leS
  generalize x0.toNat = n0 at c0 g0 ⊢
  generalize x1.toNat = n1 at c1 g1 ⊢
  generalize x2.toNat = n2 at c2 g2 ⊢
  generalize x3.toNat = n3 at c3 g3 ⊢
  generalize x4.toNat = n4 at c4 g4 ⊢
  generalize x5.toNat = n5 at c5 g5 ⊢
  generalize x6.toNat = n6 at c6 g6 ⊢
  generalize x7.toNat = n7 at c7 g7 ⊢
  clear hc
  clear x0 x1 x2 x3 x4 x5 x6 x7
  have r0 : bits BinOp.or IntKind.u64 0 (n0 : Int) = (n0 : Int) := by simpa using or_at 0 n0 0 (by decide) g0 (by decide)
  have r1 : bits BinOp.or IntKind.u64 ((n0 : Int)) ((n1 : Int) * 256) = (n0 : Int) + (n1 : Int) * 256 := by simpa using or_at (n0) n1 8 (by omega) g1 (by decide)
  have r2 : bits BinOp.or IntKind.u64 ((n0 : Int) + (n1 : Int) * 256) ((n2 : Int) * 65536) = (n0 : Int) + (n1 : Int) * 256 + (n2 : Int) * 65536 := by simpa using or_at (n0 + n1 * 256) n2 16 (by omega) g2 (by decide)
  have r3 : bits BinOp.or IntKind.u64 ((n0 : Int) + (n1 : Int) * 256 + (n2 : Int) * 65536) ((n3 : Int) * 16777216) = (n0 : Int) + (n1 : Int) * 256 + (n2 : Int) * 65536 + (n3 : Int) * 16777216 := by simpa using or_at (n0 + n1 * 256 + n2 * 65536) n3 24 (by omega) g3 (by decide)
  have r4 : bits BinOp.or IntKind.u64 ((n0 : Int) + (n1 : Int) * 256 + (n2 : Int) * 65536 + (n3 : Int) * 16777216) ((n4 : Int) * 4294967296) = (n0 : Int) + (n1 : Int) * 256 + (n2 : Int) * 65536 + (n3 : Int) * 16777216 + (n4 : Int) * 4294967296 := by simpa using or_at (n0 + n1 * 256 + n2 * 65536 + n3 * 16777216) n4 32 (by omega) g4 (by decide)
  have r5 : bits BinOp.or IntKind.u64 ((n0 : Int) + (n1 : Int) * 256 + (n2 : Int) * 65536 + (n3 : Int) * 16777216 + (n4 : Int) * 4294967296) ((n5 : Int) * 1099511627776) = (n0 : Int) + (n1 : Int) * 256 + (n2 : Int) * 65536 + (n3 : Int) * 16777216 + (n4 : Int) * 4294967296 + (n5 : Int) * 1099511627776 := by simpa using or_at (n0 + n1 * 256 + n2 * 65536 + n3 * 16777216 + n4 * 4294967296) n5 40 (by omega) g5 (by decide)
  have r6 : bits BinOp.or IntKind.u64 ((n0 : Int) + (n1 : Int) * 256 + (n2 : Int) * 65536 + (n3 : Int) * 16777216 + (n4 : Int) * 4294967296 + (n5 : Int) * 1099511627776) ((n6 : Int) * 281474976710656) = (n0 : Int) + (n1 : Int) * 256 + (n2 : Int) * 65536 + (n3 : Int) * 16777216 + (n4 : Int) * 4294967296 + (n5 : Int) * 1099511627776 + (n6 : Int) * 281474976710656 := by simpa using or_at (n0 + n1 * 256 + n2 * 65536 + n3 * 16777216 + n4 * 4294967296 + n5 * 1099511627776) n6 48 (by omega) g6 (by decide)
  have r7 : bits BinOp.or IntKind.u64 ((n0 : Int) + (n1 : Int) * 256 + (n2 : Int) * 65536 + (n3 : Int) * 16777216 + (n4 : Int) * 4294967296 + (n5 : Int) * 1099511627776 + (n6 : Int) * 281474976710656) ((n7 : Int) * 72057594037927936) = (n0 : Int) + (n1 : Int) * 256 + (n2 : Int) * 65536 + (n3 : Int) * 16777216 + (n4 : Int) * 4294967296 + (n5 : Int) * 1099511627776 + (n6 : Int) * 281474976710656 + (n7 : Int) * 72057594037927936 := by simpa using or_at (n0 + n1 * 256 + n2 * 65536 + n3 * 16777216 + n4 * 4294967296 + n5 * 1099511627776 + n6 * 281474976710656) n7 56 (by omega) g7 (by decide)
  go_enter Try.func28, Try.ntmps28
  go_wp2
  refine wp_loop_rounds 9 ?_
  rw [rounds_succ]
  go_wp2
  rw [rounds_succ]
  go_wp2
  rw [rounds_succ]
  go_wp2
  rw [rounds_succ]
  go_wp2
  rw [rounds_succ]
  go_wp2
  rw [rounds_succ]
  go_wp2
  rw [rounds_succ]
  go_wp2
  rw [rounds_succ]
  go_wp2
  rw [rounds_succ]
  go_wp2
  go_ret
  exact ⟨ret_int (by congr 1; omega), rfl⟩

theorem word_nil (A : Option Addr) (c : Nat) (w : World) : Calls Try.prog 28 #[.slice A 0 c] w fun e w' => e = .returned (.int .i64 0) ∧ w = w' := by
  go_enter Try.func28, Try.ntmps28
  go_wp2
  refine wp_loop_rounds 1 ?_
  rw [rounds_succ]
  go_wp2
  go_ret
  exact ⟨rfl, rfl⟩

/-- What a slice of eight bytes, or none, is as a word. -/
theorem word_any (base : Nat) (v : Value) (l : List UInt8) (hl : l.length = 8 ∨ l = []) (w : World) (h : Bys w base v l) : Calls Try.prog 28 #[v] w fun e w' => e = .returned (.int .i64 (wordS l)) ∧ w = w' := by
  rcases hl with hl | rfl
  · rcases h.2 with ⟨_, hn⟩ | ⟨g, cap, cur, rfl, _⟩
    · omega
    · have hc : ∀ j x, l[j]? = some x → w.cell? ⟨g, 0 + j, none⟩ = some (byC x) := fun j x hx => by
        have h1 := h.cells (g := g) rfl j (byC x) (by rw [List.getElem?_map, hx]; rfl)
        rwa [Addr.add_lit] at h1
      rw [hl]
      match l, hl, hc with
      | [x0, x1, x2, x3, x4, x5, x6, x7], _, hc => exact word_walk g 0 cap x0 x1 x2 x3 x4 x5 x6 x7 w hc
  · have e : wordS [] = 0 := by simp [wordS, leS, wrap64]
    rw [e]
    rcases h.2 with ⟨rfl, _⟩ | ⟨g, cap, cur, rfl, _⟩
    · exact word_nil _ _ w
    · exact word_nil _ _ w

/-- The eight bytes of a word. -/
def byteN (n : Int) (m : Nat) : UInt8 := UInt8.ofNat ((n % 18446744073709551616).toNat / m)
def bytesS (n : Int) : List UInt8 := [byteN n 1, byteN n 256, byteN n 65536, byteN n 16777216, byteN n 4294967296, byteN n 1099511627776, byteN n 281474976710656, byteN n 72057594037927936]
theorem byC_byteN (n : Int) (m : Nat) : byC (byteN n m) = .int .u8 (IntKind.u64.wrap n / (m : Int) % 256) := by
  have h0 : 0 ≤ n % 18446744073709551616 := Int.emod_nonneg _ (by decide)
  unfold byC byteN
  rw [IntKind.wrap_u64]
  obtain ⟨k, hk⟩ := Int.eq_ofNat_of_zero_le h0
  rw [hk, Int.toNat_natCast]
  congr 1

set_option maxHeartbeats 2000000 in
set_option maxRecDepth 100000 in
theorem bytesOf_any (n : Int) (w : World) : Calls Try.prog 40 #[.int .i64 n] w fun e w' => e = .returned (.slice (some ⟨w.heap.size, 0, none⟩) 8 8) ∧ w' = w.alloc (.cells ((bytesS n).map byC).toArray 5) := by
  have hmk : ∀ w, (Instr.makeSlice 46 (.int .i64 8) (.int .i64 8)).run Try.prog w = .ok (.slice (some ⟨w.heap.size, 0, none⟩) 8 8) (w.alloc (.cells #[.int .u8 0, .int .u8 0, .int .u8 0, .int .u8 0, .int .u8 0, .int .u8 0, .int .u8 0, .int .u8 0] 5)) := fun _ => by kernel_rfl
  go_enter Try.func40, Try.ntmps40
  go_wp2
  refine wp_loop_rounds 9 ?_
  rw [rounds_succ]
  go_wp2
  rw [rounds_succ]
  go_wp2
  rw [rounds_succ]
  go_wp2
  rw [rounds_succ]
  go_wp2
  rw [rounds_succ]
  go_wp2
  rw [rounds_succ]
  go_wp2
  rw [rounds_succ]
  go_wp2
  rw [rounds_succ]
  go_wp2
  rw [rounds_succ]
  go_wp2
  go_ret
  refine ⟨rfl, ?_⟩
  simp only [bytesS, List.map_cons, List.map_nil, byC_byteN, Int.natCast_one, Int.ediv_one]
  rfl
end Go.Proofs.Ytpononkgeeahdaa
