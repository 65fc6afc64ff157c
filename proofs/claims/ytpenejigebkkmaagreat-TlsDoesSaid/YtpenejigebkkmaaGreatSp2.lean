/-
  Layer 5: slices.Clone at bytes and at regions.
  Layer 5: get, Read, Peek, Fetch of the program.
  Layer 5: word and bytesOf of the program: eight bytes as a number, the lowest first.
  Layer 5: Word, PeekWord of the program.
  Conditions: none. (My own text.)
-/
import Derived.Test.YtpenejigebkkmaaGreatSp1
import Derived.Deep.LoopGhost
import Derived.Lib.Walk
import Derived.Lib.SliceRun
import Derived.Laws.MakeOwn
namespace Go.Proofs.YtpenejigebkkmaaGreat
open Go.RowKit Spm
set_option linter.unusedVariables false
set_option linter.unusedSimpArgs false
open Go.Lib


set_option maxRecDepth 100000 in
theorem cloneB_info : (Tryz.prog.info? 5).map (fun i => (i.zero, i.size, i.bytes)) = some (some (.int .u8 0), 1, 1) := by kernel_rfl

set_option maxRecDepth 100000 in
set_option maxHeartbeats 1000000 in
theorem cloneB_any (b off n c : Nat) (cs : List Value) (w : World) (hl : cs.length = n * 1) (hbig : n * 1 ≤ 140737488355328) (hc : ∀ j u, cs[j]? = some u → w.cell? ⟨b, off + j, none⟩ = some u) (h1 : ∀ u ∈ cs, u.oneCell' = true) :
    Calls Tryz.prog 21 #[.slice (some ⟨b, off, none⟩) n c] w fun e w' => ∃ v', e = .returned v' ∧ w'.ownsRow w.heap.size 5 1 v' n cs ∧ v' ≠ .slice none 0 0 ∧ Below w.heap.size w w' := by
  obtain ⟨i0, hi, hz0, hz1, hz2⟩ := info_parts cloneB_info
  have q22 : ∀ (w : World) (a : Option Addr) (n c n' c' : Nat), (binOp .eql 38 (.slice a n c) (.slice none n' c')).run Tryz.prog w = .ok (.bool a.isNone) w := fun w a n c n' c' => Lib.run_eql_slice_nil w _ _ a n c n' c' Tryz.underlying38
  have A : Hid (∀ j u, cs[j]? = some u → w.cell? ⟨b, off + j, none⟩ = some u) := hc
  have A1 := Lib.hid h1
  have A2 := Lib.hid hl
  clear hc h1 hl
  go_enter Tryz.func21, Tryz.ntmps21
  go_wp2_with (at_builtin; refine wpList_append_own _ rfl _ _ 38 rfl w.heap.size 5 i0 (.int .u8 0) 1 1 Tryz.underlying38 hi hz0 hz1 hz2 rfl (by decide) _ _ _ rfl (World.ownsRow_made w #[] 0 (Nat.le_refl _) (Nat.zero_le _) rfl) ⟨b, off, none⟩ n c cs rfl ?qc1 ?qc2 ?qc3 ?qc4 ?qc5 ?qc6 ?_)
  case qc1 => exact A2.out
  case qc2 =>
    intro j u hj
    rw [Addr.add_lit]
    exact Lib.cell?_alloc_some _ (A.out j u hj)
  case qc3 => exact A1.out
  case qc4 => unfold maxLen; omega
  case qc5 => omega
  case qc6 => simp
  intro v' w1 hown hgrow hnil
  go_wp2
  go_ret
  refine ⟨v', rfl, by simpa using hown, ?_, ?_⟩
  · exact hnil
  · exact ((Below.refl _ w).alloc (Nat.le_refl _) _).grown hgrow (by simp) (by intro k hk; simp [Value.ownBlock] at hk; omega)

set_option maxRecDepth 100000 in
theorem cloneB_nil (n c : Nat) (w : World) : Calls Tryz.prog 21 #[.slice none n c] w fun e w' => e = .returned (.slice none 0 0) ∧ w = w' := by
  have q22 : ∀ (w : World) (a : Option Addr) (n c n' c' : Nat), (binOp .eql 38 (.slice a n c) (.slice none n' c')).run Tryz.prog w = .ok (.bool a.isNone) w := fun w a n c n' c' => Lib.run_eql_slice_nil w _ _ a n c n' c' Tryz.underlying38
  go_enter Tryz.func21, Tryz.ntmps21
  go_wp2
  go_ret
  exact ⟨rfl, rfl⟩

set_option maxRecDepth 100000 in
theorem cloneR_info : (Tryz.prog.info? 74).map (fun i => (i.zero, i.size, i.bytes)) = some (some (.agg #[.int .i64 0, .int .i64 0, .int .i64 0, .slice none 0 0]), 4, 48) := by kernel_rfl

set_option maxRecDepth 100000 in
set_option maxHeartbeats 1000000 in
theorem cloneR_any (b off n c : Nat) (cs : List Value) (w : World) (hl : cs.length = n * 4) (hbig : n * 48 ≤ 140737488355328) (hc : ∀ j u, cs[j]? = some u → w.cell? ⟨b, off + j, none⟩ = some u) (h1 : ∀ u ∈ cs, u.oneCell' = true) :
    Calls Tryz.prog 49 #[.slice (some ⟨b, off, none⟩) n c] w fun e w' => ∃ v', e = .returned v' ∧ w'.ownsRow w.heap.size 74 4 v' n cs ∧ v' ≠ .slice none 0 0 ∧ Below w.heap.size w w' := by
  obtain ⟨i0, hi, hz0, hz1, hz2⟩ := info_parts cloneR_info
  have q22 : ∀ (w : World) (a : Option Addr) (n c n' c' : Nat), (binOp .eql 57 (.slice a n c) (.slice none n' c')).run Tryz.prog w = .ok (.bool a.isNone) w := fun w a n c n' c' => Lib.run_eql_slice_nil w _ _ a n c n' c' Tryz.underlying57
  have A : Hid (∀ j u, cs[j]? = some u → w.cell? ⟨b, off + j, none⟩ = some u) := hc
  have A1 := Lib.hid h1
  have A2 := Lib.hid hl
  clear hc h1 hl
  go_enter Tryz.func49, Tryz.ntmps49
  go_wp2_with (at_builtin; refine wpList_append_own _ rfl _ _ 57 rfl w.heap.size 74 i0 (.agg #[.int .i64 0, .int .i64 0, .int .i64 0, .slice none 0 0]) 4 48 Tryz.underlying57 hi hz0 hz1 hz2 rfl (by decide) _ _ _ rfl (World.ownsRow_made w #[] 0 (Nat.le_refl _) (Nat.zero_le _) rfl) ⟨b, off, none⟩ n c cs rfl ?qc1 ?qc2 ?qc3 ?qc4 ?qc5 ?qc6 ?_)
  case qc1 => exact A2.out
  case qc2 =>
    intro j u hj
    rw [Addr.add_lit]
    exact Lib.cell?_alloc_some _ (A.out j u hj)
  case qc3 => exact A1.out
  case qc4 => unfold maxLen; omega
  case qc5 => omega
  case qc6 => simp
  intro v' w1 hown hgrow hnil
  go_wp2
  go_ret
  refine ⟨v', rfl, by simpa using hown, ?_, ?_⟩
  · exact hnil
  · exact ((Below.refl _ w).alloc (Nat.le_refl _) _).grown hgrow (by simp) (by intro k hk; simp [Value.ownBlock] at hk; omega)

set_option maxRecDepth 100000 in
theorem cloneR_nil (n c : Nat) (w : World) : Calls Tryz.prog 49 #[.slice none n c] w fun e w' => e = .returned (.slice none 0 0) ∧ w = w' := by
  have q22 : ∀ (w : World) (a : Option Addr) (n c n' c' : Nat), (binOp .eql 57 (.slice a n c) (.slice none n' c')).run Tryz.prog w = .ok (.bool a.isNone) w := fun w a n c n' c' => Lib.run_eql_slice_nil w _ _ a n c n' c' Tryz.underlying57
  go_enter Tryz.func49, Tryz.ntmps49
  go_wp2
  go_ret
  exact ⟨rfl, rfl⟩
end Go.Proofs.YtpenejigebkkmaaGreat

namespace Go.Proofs.YtpenejigebkkmaaGreat
open Go.RowKit Spm
set_option linter.unusedVariables false
set_option linter.unusedSimpArgs false

/-- Bytes of the call's own, and an error. -/
def GotB (base : Nat) (l : List UInt8) (err : Int) (w : World) (e : Ending) (w' : World) : Prop := ∃ v', e = .returned (.tuple #[v', .int .i64 err]) ∧ Bys w' base v' l ∧ Below base w w'
theorem GotB.mk {base : Nat} {l : List UInt8} {err : Int} {w w' : World} {v' : Value} (h : Bys w' base v' l) (hb : Below base w w') : GotB base l err w (.returned (.tuple #[v', .int .i64 err])) w' := ⟨v', rfl, h, hb⟩
theorem GotB.nil {base : Nat} {err : Int} {w w' : World} (hb : Below base w w') : GotB base [] err w (.returned (.tuple #[.slice none 0 0, .int .i64 err])) w' := ⟨_, rfl, World.ownsRow_nil _ _ _ _, hb⟩
theorem GotB.eq {base : Nat} {l l' : List UInt8} {err err' : Int} {w w' : World} {e : Ending} (h : GotB base l err w e w') (h1 : l = l') (h2 : err = err') : GotB base l' err' w e w' := by subst h1; subst h2; exact h

theorem getS_arg {L : List Rg} {at_ n p : Int} (h : n < 1 ∨ 1048576 < n) : getS L at_ n p = ([], 1) := by unfold getS; exact if_pos h
theorem getS_bad {L : List Rg} {at_ p : Int} {n : Nat} (h1 : 1 ≤ n) (h2 : n ≤ 1048576) (h : partS L at_ n p ≠ 0) : getS L at_ n p = ([], partS L at_ n p) := by
  unfold getS; rw [if_neg (by omega), if_pos (by simpa using h), Int.toNat_natCast]
theorem partS_ok {L : List Rg} {at_ p : Int} {n : Nat} (h : partS L at_ n p = 0) : ∃ r, L[partK L at_]? = some r ∧ ¬ r.sz - (at_ - r.at_) < n ∧ has r.pm p = true ∧ inside at_ r = true := by
  unfold partS at h
  split at h
  · simp at h
  · rename_i r hr
    have hl := (List.getElem?_eq_some_iff.1 hr).1
    have he := (List.getElem?_eq_some_iff.1 hr).2
    refine ⟨r, hr, fun hc => by rw [if_pos hc] at h; simp at h, ?_, ?_⟩
    · cases hh : has r.pm p
      · rw [hh] at h
        split at h <;> simp at h
      · rfl
    · have := List.findIdx_getElem (p := inside at_) (xs := L) (w := hl)
      rw [← he]; exact this
theorem getS_ok {L : List Rg} {at_ p : Int} {n : Nat} {r : Rg} (h1 : 1 ≤ n) (h2 : n ≤ 1048576) (h : partS L at_ n p = 0) (hr : L[partK L at_]? = some r) : getS L at_ n p = ((r.bs.drop (at_ - r.at_).toNat).take n, 0) := by
  unfold getS; rw [if_neg (by omega), if_neg (by simpa using h), hr]; simp only [Int.toNat_natCast]
theorem inside_iff {at_ : Int} {r : Rg} (h : inside at_ r = true) : r.at_ ≤ at_ ∧ at_ - r.at_ < r.sz := by unfold inside at h; simpa using h

set_option maxRecDepth 100000 in
theorem get_arg (a : Nat) (at_ n p : Int) (hn : n < 1 ∨ 1048576 < n) (w : World) : Calls Tryz.prog 60 #[.pointer (some ⟨a, 0, none⟩), .int .i64 at_, .int .i64 n, .int .i64 p] w fun e w' => e = .returned (.tuple #[.slice none 0 0, .int .i64 1]) ∧ w = w' := by
  rcases hn with h1 | h1
  · go_enter Tryz.func60, Tryz.ntmps60
    go_wp2
    go_ret2
    exact ⟨rfl, rfl⟩
  · have h2 : ¬ n < 1 := by omega
    go_enter Tryz.func60, Tryz.ntmps60
    go_wp2
    go_ret2
    exact ⟨rfl, rfl⟩

set_option maxRecDepth 100000 in
set_option maxHeartbeats 1000000 in
theorem get_walk (a : Nat) (v : Value) (Q : List RowP) (hok : Ok (Q.map (·.1))) (at_ : Int) (hat : at_ ≤ 9223372036854775807) (n : Nat) (hn1 : 1 ≤ n) (hn2 : n ≤ 1048576) (p : Int) (hp : OneP p) (w : World) (hs : Spc 59 74 w a v Q) :
    Calls Tryz.prog 60 #[.pointer (some ⟨a, 0, none⟩), .int .i64 at_, .int .i64 n, .int .i64 p] w (GotB w.heap.size (getS (Q.map (·.1)) at_ n p).1 (getS (Q.map (·.1)) at_ n p).2 w) := by
  have c1 := part_any a v Q hok at_ hat n hn1 hn2 p hp w hs
  have hn1' : ¬ (n : Int) < 1 := by omega
  have hn2' : ¬ 1048576 < (n : Int) := by omega
  by_cases hE : partS (Q.map (·.1)) at_ n p = 0
  · obtain ⟨r, hr, hrn, _, hin⟩ := partS_ok hE
    obtain ⟨hi1, hi2⟩ := inside_iff hin
    rw [List.getElem?_map] at hr
    cases hq : Q[partK (Q.map (·.1)) at_]? with
    | none => rw [hq] at hr; cases hr
    | some q =>
      rw [hq] at hr
      have hr' : q.1 = r := by simpa using hr
      subst hr'
      rw [partV_ok hq hE, hE] at c1
      have hg := getS_ok hn1 hn2 hE (r := q.1) (by rw [List.getElem?_map, hq]; rfl)
      obtain ⟨hb1, hb2, hb3, hb4⟩ := hs.bys (List.mem_of_getElem? hq)
      have hlen := (hok.each q.1 (List.mem_map.2 ⟨q, List.mem_of_getElem? hq, rfl⟩)).len
      generalize ho : (at_ - q.1.at_).toNat = o at c1 hg
      have hcl : (((q.1.bs.drop o).take n).map byC).length = n * 1 := by simp; omega
      have HC := Lib.hid (fun (w1 : World) (hb : Below w.heap.size w w1) => cloneB_any q.2.1 o n (q.2.2 - o) (((q.1.bs.drop o).take n).map byC) w1 hcl (by omega) (fun j u hj => by
        rw [List.getElem?_map] at hj
        cases hx : ((q.1.bs.drop o).take n)[j]? with
        | none => rw [hx] at hj; cases hj
        | some x =>
          rw [hx] at hj
          have hu : byC x = u := by simpa using hj
          subst hu
          rw [List.getElem?_take] at hx
          split at hx
          · rw [List.getElem?_drop] at hx
            exact (hb.cell (p := ⟨q.2.1, o + j, none⟩) hb1).trans (hb4 _ _ hx)
          · cases hx) (byC_one _))
      have HL : Hid (((q.1.bs.drop o).take n).length = n) := Lib.hid (by simp; omega)
      rw [hg]
      generalize (q.1.bs.drop o).take n = l at HC HL ⊢
      have C1 := Lib.hid c1
      clear hq hr hok hs c1 hE hg hb1 hb2 hb3 hb4 hlen ho hcl hi1 hi2 hin hrn
      go_enter Tryz.func60, Tryz.ntmps60
      go_wp2_with fail
      refine (C1.out).mono ?_
      rintro e w1 ⟨rfl, h1⟩
      have H1 := Lib.hid h1; clear h1
      go_wp2_with fail
      refine (HC.out _ H1.out).mono ?_
      rintro e w2 ⟨v', rfl, hown, _, h2⟩
      have H2 := Lib.hid h2; clear h2
      have HW := Lib.hid hown; clear hown
      go_wp2
      go_ret2
      exact GotB.mk (by unfold Bys; rw [HL.out]; exact owns_mono HW.out H1.out.size) (H1.out.trans (H2.out.mono H1.out.size))
  · rw [partV_bad hE] at c1
    have hg := getS_bad hn1 hn2 hE
    rw [hg]
    generalize partS (Q.map (·.1)) at_ n p = E at c1 hE ⊢
    have C1 := Lib.hid c1
    clear hok hs c1 hE hg
    go_enter Tryz.func60, Tryz.ntmps60
    go_wp2_with fail
    refine (C1.out).mono ?_
    rintro e w1 ⟨rfl, h1⟩
    have H1 := Lib.hid h1; clear h1
    go_wp2_with fail
    refine (cloneB_nil _ _ _).mono ?_
    rintro e w2 ⟨rfl, rfl⟩
    go_wp2
    go_ret2
    exact GotB.nil H1.out

theorem get_any (a : Nat) (F : Nat → Prop) (L : List Rg) (hok : Ok L) (at_ : Int) (hat : at_ ≤ 9223372036854775807) (n p : Int) (hp : OneP p) (w : World) (h : PSp w a F L) :
    Calls Tryz.prog 60 #[.pointer (some ⟨a, 0, none⟩), .int .i64 at_, .int .i64 n, .int .i64 p] w (GotB w.heap.size (getS L at_ n p).1 (getS L at_ n p).2 w) := by
  by_cases hn : n < 1 ∨ 1048576 < n
  · refine (get_arg a at_ n p hn w).mono ?_
    rintro e w' ⟨rfl, rfl⟩
    rw [getS_arg hn]
    exact GotB.nil (Below.refl _ _)
  · obtain ⟨v, Q, hs, rfl, hF⟩ := h
    obtain ⟨m, rfl⟩ : ∃ m : Nat, n = (m : Int) := ⟨n.toNat, by omega⟩
    exact get_walk a v Q hok at_ hat m (by omega) (by omega) p hp w hs

set_option maxRecDepth 100000 in
theorem peek_any (a : Nat) (F : Nat → Prop) (L : List Rg) (hok : Ok L) (at_ : Int) (hat : at_ ≤ 9223372036854775807) (n : Int) (w : World) (h : PSp w a F L) :
    Calls Tryz.prog 41 #[.pointer (some ⟨a, 0, none⟩), .int .i64 at_, .int .i64 n] w (GotB w.heap.size (getS L at_ n 0).1 (getS L at_ n 0).2 w) := by
  have C1 := Lib.hid (get_any a F L hok at_ hat n 0 (by unfold OneP; omega) w h)
  clear hok h
  generalize getS L at_ n 0 = r at C1 ⊢
  go_enter Tryz.func41, Tryz.ntmps41
  go_wp2_with fail
  refine (C1.out).mono ?_
  rintro e w1 ⟨v', rfl, hown, h1⟩
  have H1 := Lib.hid h1; clear h1
  have HW := Lib.hid hown; clear hown
  go_wp2
  go_ret2
  exact GotB.mk HW.out H1.out

end Go.Proofs.YtpenejigebkkmaaGreat

namespace Go.Proofs.YtpenejigebkkmaaGreat
open Go.RowKit Spm
set_option linter.unusedVariables false
set_option linter.unusedSimpArgs false

theorem bits_or_u64_nat (a b : Nat) (ha : a < 18446744073709551616) (hb : b < 18446744073709551616) : bits .or .u64 (a : Int) (b : Int) = ((a ||| b : Nat) : Int) := by
  have hx : a ||| b < 2 ^ 64 := Nat.or_lt_two_pow (by omega) (by omega)
  have h1 : (BitVec.ofInt 64 (a : Int)).toNat = a := by
    rw [BitVec.ofInt_natCast, BitVec.toNat_ofNat]; exact Nat.mod_eq_of_lt (by omega)
  have h2 : (BitVec.ofInt 64 (b : Int)).toNat = b := by
    rw [BitVec.ofInt_natCast, BitVec.toNat_ofNat]; exact Nat.mod_eq_of_lt (by omega)
  show IntKind.u64.wrap ((BitVec.ofInt 64 (a : Int) ||| BitVec.ofInt 64 (b : Int)).toNat : Int) = _
  rw [BitVec.toNat_or, h1, h2, IntKind.wrap_u64]
  omega
theorem or_at (m y : Nat) (k : Nat) (hm : m < 2 ^ k) (hy : y < 256) (hk : k ≤ 56) : bits BinOp.or IntKind.u64 (m : Int) ((y * 2 ^ k : Nat) : Int) = ((m + y * 2 ^ k : Nat) : Int) := by
  have h2 : (2 : Nat) ^ k ≤ 2 ^ 56 := Nat.pow_le_pow_right (by decide) hk
  have e : y * 2 ^ k ||| m = y * 2 ^ k + m := by rw [← Nat.shiftLeft_eq, Nat.shiftLeft_add_eq_or_of_lt hm]
  have hb : y * 2 ^ k + m < 18446744073709551616 := by
    have : y * 2 ^ k ≤ 255 * 2 ^ k := Nat.mul_le_mul_right _ (by omega)
    have : (2 : Nat) ^ 56 = 72057594037927936 := by decide
    omega
  rw [bits_or_u64_nat _ _ (by omega) (by omega), Nat.or_comm, e, Nat.add_comm]

/-- The number of bytes, the lowest first. -/
def leS : List UInt8 → Nat
  | [] => 0
  | b :: l => b.toNat + 256 * leS l
/-- A word. -/
def wordS (l : List UInt8) : Int := wrap64 (leS l)

/-- The eight bytes of a word. -/
def byteN (n : Int) (m : Nat) : UInt8 := UInt8.ofNat ((n % 18446744073709551616).toNat / m)
def bytesS (n : Int) : List UInt8 := [byteN n 1, byteN n 256, byteN n 65536, byteN n 16777216, byteN n 4294967296, byteN n 1099511627776, byteN n 281474976710656, byteN n 72057594037927936]
theorem byC_byteN (n : Int) (m : Nat) : byC (byteN n m) = .int .u8 (IntKind.u64.wrap n / (m : Int) % 256) := by
  have h0 : 0 ≤ n % 18446744073709551616 := Int.emod_nonneg _ (by decide)
  unfold byC byteN
  rw [IntKind.wrap_u64]
  obtain ⟨k, hk⟩ := Int.eq_ofNat_of_zero_le h0
  rw [hk, Int.toNat_natCast]
  congr 1

end Go.Proofs.YtpenejigebkkmaaGreat

namespace Go.Proofs.YtpenejigebkkmaaGreat
open Go.RowKit Spm
set_option linter.unusedVariables false
set_option linter.unusedSimpArgs false

theorem getS_len {L : List Rg} (hok : Ok L) {at_ : Int} {n : Nat} {p : Int} (h1 : 1 ≤ n) (h2 : n ≤ 1048576) : (getS L at_ n p).1.length = n ∨ (getS L at_ n p).1 = [] := by
  by_cases hE : partS L at_ n p = 0
  · obtain ⟨r, hr, hrn, _, hin⟩ := partS_ok hE
    obtain ⟨hi1, hi2⟩ := inside_iff hin
    rw [getS_ok h1 h2 hE hr]
    have := (hok.each r (List.mem_of_getElem? hr)).len
    left
    simp
    omega
  · rw [getS_bad h1 h2 hE]
    right; rfl
def wordAt (L : List Rg) (at_ p : Int) : Int × Int := (wordS (getS L at_ 8 p).1, (getS L at_ 8 p).2)

end Go.Proofs.YtpenejigebkkmaaGreat
