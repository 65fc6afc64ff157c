/-
  Layer 4: the instructions that bytes are, plain.
  Conditions: none. (My own text.)
-/
import Derived.Test.YtmbacegbcccdjaaDoorCdb
import Derived.Test.YtmbacegbcccdjaaDoorSp5
namespace Go.Proofs.YtmbacegbcccdjaaDoor
open Go.RowKit Spm
set_option linter.unusedVariables false
set_option linter.unusedSimpArgs false

def byI (b : List UInt8) (j : Nat) : Int := ((b.getD j 0).toNat : Int)
def i32S (n : Int) : Int := if 2147483648 ≤ n then n - 4294967296 else n
/-- The k-th instruction of some bytes. -/
def insK (b : List UInt8) (k : Nat) : Ins := ⟨byI b (8 * k), byI b (8 * k + 1), byI b (8 * k + 2), byI b (8 * k + 3), i32S (byI b (8 * k + 4) + 256 * byI b (8 * k + 5) + 65536 * byI b (8 * k + 6) + 16777216 * byI b (8 * k + 7))⟩
def decOk (b : List UInt8) : Prop := b.length % 8 = 0 ∧ ∀ k, 8 * k < b.length → mayS (insK b k) = true
theorem byI_rng (b : List UInt8) (j : Nat) : 0 ≤ byI b j ∧ byI b j < 256 := by
  unfold byI
  have := (b.getD j 0).toNat_lt
  omega
theorem byI_cell {b : List UInt8} {j : Nat} (h : j < b.length) : ∃ x, b[j]? = some x ∧ byC x = .int .u8 (byI b j) := by
  refine ⟨b[j], List.getElem?_eq_getElem h, ?_⟩
  unfold byC byI
  rw [List.getD_eq_getElem?_getD, List.getElem?_eq_getElem h]
  rfl
theorem or_k (m M : Nat) (hM : M = 2 ^ m) (x y : Int) (h0 : 0 ≤ x) (hx : x < M) (hy : 0 ≤ y) (h : x + y * M < 4294967296) : bits .or .u32 x (y * M) = x + y * M := by
  obtain ⟨a, rfl⟩ : ∃ a : Nat, x = a := ⟨x.toNat, by omega⟩
  obtain ⟨b, rfl⟩ : ∃ b : Nat, y = b := ⟨y.toNat, by omega⟩
  have e : ((b : Int) * (M : Int)) = ((b * M : Nat) : Int) := (Int.natCast_mul b M).symm
  rw [e] at h ⊢
  have hs : a + b * M < 4294967296 := by have := h; generalize b * M = P at this ⊢; omega
  have ha : a < 2 ^ m := by rw [← hM]; exact_mod_cast hx
  have key : (BitVec.ofInt 32 (a : Int) ||| BitVec.ofInt 32 ((b * M : Nat) : Int)).toNat = a + b * M := by
    rw [BitVec.ofInt_natCast, BitVec.ofInt_natCast, BitVec.toNat_or, BitVec.toNat_ofNat, BitVec.toNat_ofNat, Nat.mod_eq_of_lt (by omega), Nat.mod_eq_of_lt (by omega), Nat.or_comm, hM, ← Nat.shiftLeft_eq, ← Nat.shiftLeft_add_eq_or_of_lt ha, Nat.shiftLeft_eq, Nat.add_comm]
  show IntKind.u32.wrap (((BitVec.ofInt 32 (a : Int) ||| BitVec.ofInt 32 ((b * M : Nat) : Int)).toNat : Nat) : Int) = _
  rw [key]
  simp only [IntKind.wrap, IntKind.bits, IntKind.signed]
  simp
  omega
def insRow (b : List UInt8) (k : Nat) : List Value := (List.range k).flatMap fun t => (insK b t).cells
set_option maxRecDepth 100000 in
theorem ins_info : (Tryd.prog.info? 39).map (fun i => (i.zero, i.size, i.bytes)) = some (some (.agg #[.int .i64 0, .int .i64 0, .int .i64 0, .int .i64 0, .int .i64 0]), 5, 40) := by kernel_rfl

def lenV : Value → Nat
  | .slice _ l _ => l
  | _ => 0
structure DInv (A : Option Addr) (b : List UInt8) (n c : Nat) (w : World) (s v : Value) (wr : World) : Prop where
  out : ∃ (k : Nat) (A' : Option Addr), 8 * k ≤ n ∧ s = .slice A' (n - 8 * k) (c - 8 * k) ∧ (8 * k < n → ∀ bb off, A = some ⟨bb, off, none⟩ → A' = some ⟨bb, off + 8 * k, none⟩) ∧ (wr.ownsRow w.heap.size 39 5 v k (insRow b k)) ∧ (∀ t, t < k → mayS (insK b t) = true) ∧ (Below w.heap.size w wr)
def DecE (b : List UInt8) (w : World) (e : Ending) (w' : World) : Prop :=
  ((decOk b ∧ ∃ v, e = .returned (.tuple #[v, .int .i64 0]) ∧ w'.ownsRow w.heap.size 39 5 v (b.length / 8) (insRow b (b.length / 8))) ∨ (¬ decOk b ∧ e = .returned (.tuple #[.slice none 0 0, .int .i64 40]))) ∧ Below w.heap.size w w'

end Go.Proofs.YtmbacegbcccdjaaDoor
