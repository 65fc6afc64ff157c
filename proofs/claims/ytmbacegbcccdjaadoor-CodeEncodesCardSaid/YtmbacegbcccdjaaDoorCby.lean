/-
  Layer 4: the bytes of an instruction, as the document says them (clevisref04.Bytes).
  Conditions: none. (My own text.)
-/
import Derived.Test.YtmbacegbcccdjaaDoorCdf
import Derived.Test.YtmbacegbcccdjaaDoorCpi
import Derived.Test.YtmbacegbcccdjaaDoorCel
namespace Go.Proofs.YtmbacegbcccdjaaDoor
open Go.RowKit Spm
set_option linter.unusedVariables false
set_option linter.unusedSimpArgs false

def encB (x : Int) : UInt8 := UInt8.ofNat x.toNat
def unN (n : Int) : Int := if n < 0 then n + 4294967296 else n
def encS (i : Ins) : List UInt8 := [encB i.op, encB i.a, encB i.b, encB i.c, encB (unN i.n % 256), encB (unN i.n / 256 % 256), encB (unN i.n / 65536 % 256), encB (unN i.n / 16777216)]
theorem encB_byC {x : Int} (h0 : 0 ≤ x) (h1 : x < 256) : byC (encB x) = .int .u8 x := by
  obtain ⟨k, rfl⟩ : ∃ k : Nat, x = k := ⟨x.toNat, by omega⟩
  have : k < 256 := by omega
  unfold byC encB
  simp
  omega
theorem unN_rng {n : Int} (h0 : -2147483648 ≤ n) (h1 : n ≤ 2147483647) : 0 ≤ unN n ∧ unN n < 4294967296 := by unfold unN; split <;> omega
theorem Bys.fresh (w : World) (l : List UInt8) (hl : l.length ≤ maxLen) (W : World) (g : Nat) (hg : W.heap[g]? = some (.cells (l.map byC).toArray 5 (0, 0))) (base : Nat) (hb : base ≤ g) : Bys W base (.slice (some ⟨g, 0, none⟩) l.length l.length) l :=
  ⟨by simp, .inr ⟨g, l.length, (l.map byC).toArray, rfl, hb, hg, Nat.le_refl _, hl, by simp, by
    have : l.length * 1 = (l.map byC).length := by simp
    rw [this]; exact List.take_length⟩⟩
def BysE (l : List UInt8) (w : World) (e : Ending) (w' : World) : Prop := ∃ v, e = .returned v ∧ Bys w' w.heap.size v l ∧ Below w.heap.size w w'
set_option maxRecDepth 100000 in
set_option maxHeartbeats 4000000 in
theorem bytes_any (i : Ins) (hi : mayS i = true) (w : World) : Calls Tryd.prog 32 #[i.val] w (BysE (encS i) w) := by
  obtain ⟨⟨o1, o2⟩, ⟨a1, a2⟩, ⟨b1, b2⟩, ⟨c1, c2⟩, n1, n2⟩ := may_rng hi
  obtain ⟨u1, u2⟩ := unN_rng n1 n2
  clear hi
  obtain ⟨op, a, b, c, n⟩ := i
  simp only at o1 o2 a1 a2 b1 b2 c1 c2 n1 n2 u1 u2
  obtain ⟨U, hU⟩ : ∃ U : Nat, unN n = U := ⟨(unN n).toNat, by omega⟩
  have hUI : U < 4294967296 := by omega
  have HF : Hid (BysE (encS ⟨op, a, b, c, n⟩) w (.returned (.slice (some ⟨w.heap.size + 1, 0, none⟩) 8 8)) ((w.alloc (.cells #[.int .i64 op, .int .i64 a, .int .i64 b, .int .i64 c, .int .i64 n] 39)).alloc (.cells #[.int .u8 op, .int .u8 a, .int .u8 b, .int .u8 c, .int .u8 ((U : Int) % 256), .int .u8 ((U : Int) / 256 % 256), .int .u8 ((U : Int) / 65536 % 256), .int .u8 ((U : Int) / 16777216)] 5))) := Lib.hid (by
    have hs : (w.alloc (.cells #[.int .i64 op, .int .i64 a, .int .i64 b, .int .i64 c, .int .i64 n] 39)).heap.size = w.heap.size + 1 := by simp
    refine ⟨_, rfl, ?_, ((Below.refl _ _).alloc (Nat.le_refl _) _).alloc (by rw [hs]; exact Nat.le_succ _) _⟩
    refine Bys.fresh w (encS ⟨op, a, b, c, n⟩) (show 8 ≤ maxLen by unfold maxLen; omega) _ _ ?_ _ (Nat.le_succ _)
    have hh := heap_alloc_new (w.alloc (.cells #[.int .i64 op, .int .i64 a, .int .i64 b, .int .i64 c, .int .i64 n] 39)) (.cells #[.int .u8 op, .int .u8 a, .int .u8 b, .int .u8 c, .int .u8 ((U : Int) % 256), .int .u8 ((U : Int) / 256 % 256), .int .u8 ((U : Int) / 65536 % 256), .int .u8 ((U : Int) / 16777216)] 5)
    rw [hs] at hh
    rw [hh]
    unfold encS
    simp only [hU, List.map_cons, List.map_nil]
    rw [encB_byC (x := op) (by omega) (by omega), encB_byC (x := a) (by omega) (by omega), encB_byC (x := b) (by omega) (by omega), encB_byC (x := c) (by omega) (by omega), encB_byC (x := (U : Int) % 256) (by omega) (by omega), encB_byC (x := (U : Int) / 256 % 256) (by omega) (by omega), encB_byC (x := (U : Int) / 65536 % 256) (by omega) (by omega), encB_byC (x := (U : Int) / 16777216) (by omega) (by omega)])
  have t1 : (U : Int).tmod 256 = (U : Int) % 256 := Int.tmod_eq_emod_of_nonneg (by omega)
  have t2 : (U : Int).tdiv 256 = (U : Int) / 256 := Int.tdiv_eq_ediv_of_nonneg (by omega)
  have t3 : ((U : Int) / 256).tmod 256 = (U : Int) / 256 % 256 := Int.tmod_eq_emod_of_nonneg (by omega)
  have t4 : (U : Int).tdiv 65536 = (U : Int) / 65536 := Int.tdiv_eq_ediv_of_nonneg (by omega)
  have t5 : ((U : Int) / 65536).tmod 256 = (U : Int) / 65536 % 256 := Int.tmod_eq_emod_of_nonneg (by omega)
  have t6 : (U : Int).tdiv 16777216 = (U : Int) / 16777216 := Int.tdiv_eq_ediv_of_nonneg (by omega)
  by_cases h0 : n < 0
  · have hn : n + 4294967296 = (U : Int) := by rw [← hU]; unfold unN; rw [if_pos h0]
    unfold Ins.val
    simp only
    go_enter Tryd.func32, Tryd.ntmps32
    go_upto_region 4 with fail
    go_wp2
    go_ret

    exact HF.out
  · obtain rfl : n = (U : Int) := by rw [← hU]; unfold unN; rw [if_neg h0]
    unfold Ins.val
    simp only
    go_enter Tryd.func32, Tryd.ntmps32
    go_wp2
    go_ret

    exact HF.out
end Go.Proofs.YtmbacegbcccdjaaDoor
