/-
  Layer 5: SpaceWords's walk.
  Conditions: none. (My own text.)
-/
import Derived.Test.YtblmppdfdihogaaSpv
import Derived.Deep.QuietTactic
import Derived.BigQuiet
namespace Go.Proofs.Ytblmppdfdihogaa
open Go.RowKit Spm
set_option linter.unusedVariables false
set_option linter.unusedSimpArgs false

theorem cell_byte (n : Int) (m : Nat) (hm : 0 < m) (hd : (m : Int) ∣ 72057594037927936) : (n % 18446744073709551616) / (m : Int) % 256 = n / (m : Int) % 256 := by
  obtain ⟨k, hk⟩ := hd
  have hm' : (0 : Int) < m := by omega
  have e : n = n % 18446744073709551616 + (m : Int) * (256 * k * (n / 18446744073709551616)) := by
    have h1 := Int.emod_add_mul_ediv n 18446744073709551616
    have h2 : (18446744073709551616 : Int) = (m : Int) * (256 * k) := by rw [Int.mul_left_comm, ← hk]; rfl
    rw [← Int.mul_assoc, ← h2]
    exact h1.symm
  conv => rhs; rw [e]
  rw [Int.add_mul_ediv_left _ _ (by omega), Int.mul_assoc, Int.add_mul_emod_self_left]

theorem my_read {B : Nat} {w wr : World} {a : Nat} {L : List Rg} (h : Mine B w wr a L) (at_ : Int) (hat : at_ ≤ 9223372036854775807) (n : Int) : Calls Try.prog 18 #[.pointer (some ⟨a, 0, none⟩), .int .i64 at_, .int .i64 n] wr fun e w' =>
    (∃ v', e = .returned (.tuple #[v', .int .i64 (getS L at_ n 1).2]) ∧ Bys w' wr.heap.size v' (getS L at_ n 1).1) ∧ Mine B w w' a L ∧ Below wr.heap.size wr w' :=
  (read_any a _ L h.ok at_ hat n wr h.sp).mono fun _ _ ⟨v', h1, h2, h3⟩ => ⟨⟨v', h1, h2⟩, h.stay h3, h3⟩
theorem my_word {B : Nat} {w wr : World} {a : Nat} {L : List Rg} (h : Mine B w wr a L) (at_ : Int) (hat : at_ ≤ 9223372036854775807) : Calls Try.prog 19 #[.pointer (some ⟨a, 0, none⟩), .int .i64 at_] wr fun e w' =>
    e = .returned (.tuple #[.int .i64 (wordAt L at_ 1).1, .int .i64 (wordAt L at_ 1).2]) ∧ Mine B w w' a L :=
  (sWord_any a _ L h.ok at_ hat wr h.sp).mono fun _ _ ⟨h1, h2⟩ => ⟨h1, h.stay h2⟩

set_option maxHeartbeats 1000000 in
set_option maxRecDepth 100000 in
theorem words_walk (at_ n : Int) (hat : at_ ≤ 9223372036854775807) (hn1 : -9223372036854775808 ≤ n) (hn2 : n ≤ 9223372036854775807) (w : World) : Calls Try.prog 5 #[.int .i64 at_, .int .i64 n] w fun e w' => e = .returned (.bool true) ∧ Below w.heap.size w w' := by
  have A1 := Lib.hid awake_any
  have C1 : Hid (∀ {w1 : World} {a : Nat}, Mine w.heap.size w w1 a [] → Calls Try.prog 16 #[.pointer (some ⟨a, 0, none⟩), .int .i64 8192, .int .i64 64, .int .i64 3] w1 fun e w' => e = .returned (.int .i64 0) ∧ Mine w.heap.size w w' a lw) := Lib.hid (fun h => (my_mapAt h 8192 64 3).mono fun e w' h' => ⟨by rw [h'.1, lw_1], h'.2⟩)
  by_cases hb : at_ < 8192 ∨ 8248 < at_
  · have C2 : Hid (∀ {w1 : World} {a : Nat}, Mine w.heap.size w w1 a lw → Calls Try.prog 17 #[.pointer (some ⟨a, 0, none⟩), .int .i64 at_, .int .i64 n] w1 fun e w' => e = .returned (.int .i64 50) ∧ Below w.heap.size w w') := Lib.hid (fun h => (my_setWord h at_ hat n).mono fun e w' h' => ⟨by rw [h'.1, lw_bad hb], h'.2.bel⟩)
    clear hn1 hn2
    rcases hb with hb | hb
    · go_enter Try.func5, Try.ntmps5
      go_wp2_with fail
      refine (A1.out _).mono ?_
      rintro e w0 ⟨rfl, h0⟩
      have H0 := Lib.hid h0; clear h0
      go_wp2_with fail
      refine (new_any _).mono ?_
      rintro e w1 ⟨rfl, h1, h2⟩
      have M1 := Lib.hid (Mine.new H0.out H0.out.size h1 h2); clear h1 h2
      go_wp2_with fail
      refine (C1.out M1.out).mono ?_
      rintro e w2 ⟨rfl, m2⟩
      have M2 := Lib.hid m2; clear m2
      go_wp2_with fail
      refine (C2.out M2.out).mono ?_
      rintro e w3 ⟨rfl, m3⟩
      have M3 := Lib.hid m3; clear m3
      go_wp2
      go_ret
      exact ⟨by simp, M3.out⟩
    · have hb' : ¬ at_ < 8192 := by omega
      go_enter Try.func5, Try.ntmps5
      go_wp2_with fail
      refine (A1.out _).mono ?_
      rintro e w0 ⟨rfl, h0⟩
      have H0 := Lib.hid h0; clear h0
      go_wp2_with fail
      refine (new_any _).mono ?_
      rintro e w1 ⟨rfl, h1, h2⟩
      have M1 := Lib.hid (Mine.new H0.out H0.out.size h1 h2); clear h1 h2
      go_wp2_with fail
      refine (C1.out M1.out).mono ?_
      rintro e w2 ⟨rfl, m2⟩
      have M2 := Lib.hid m2; clear m2
      go_wp2_with fail
      refine (C2.out M2.out).mono ?_
      rintro e w3 ⟨rfl, m3⟩
      have M3 := Lib.hid m3; clear m3
      go_wp2
      go_ret
      exact ⟨by simp, M3.out⟩
  · have hb1 : ¬ at_ < 8192 := by omega
    have hb2 : ¬ 8248 < at_ := by omega
    obtain ⟨lz, hlz⟩ : ∃ lz, [(⟨8192, 64, 3, over (zeros 64) (at_ - 8192).toNat (bytesS n)⟩ : Rg)] = lz := ⟨_, rfl⟩
    have C2 : Hid (∀ {w1 : World} {a : Nat}, Mine w.heap.size w w1 a lw → Calls Try.prog 17 #[.pointer (some ⟨a, 0, none⟩), .int .i64 at_, .int .i64 n] w1 fun e w' => e = .returned (.int .i64 0) ∧ Mine w.heap.size w w' a lz) := Lib.hid (fun h => (my_setWord h at_ hat n).mono fun e w' h' => ⟨by rw [h'.1, (lw_set hb).1], by have := h'.2; rwa [(lw_set hb).2, hlz] at this⟩)
    have C3 : Hid (∀ {w1 : World} {a : Nat}, Mine w.heap.size w w1 a lz → Calls Try.prog 18 #[.pointer (some ⟨a, 0, none⟩), .int .i64 at_, .int .i64 8] w1 fun e w' => (∃ v', e = .returned (.tuple #[v', .int .i64 0]) ∧ Bys w' w1.heap.size v' (bytesS n)) ∧ Mine w.heap.size w w' a lz ∧ Below w1.heap.size w1 w') := Lib.hid (fun h => (my_read h at_ hat 8).mono fun e w' h' => by have := h'; rw [← hlz, lw_get hb] at this; rw [← hlz]; exact this)
    have C4 : Hid (∀ {w1 : World} {a : Nat}, Mine w.heap.size w w1 a lz → Calls Try.prog 19 #[.pointer (some ⟨a, 0, none⟩), .int .i64 at_] w1 fun e w' => e = .returned (.tuple #[.int .i64 n, .int .i64 0]) ∧ Below w.heap.size w w') := Lib.hid (fun h => (my_word h at_ hat).mono fun e w' h' => ⟨by rw [h'.1, ← hlz, lw_word hb hn1 hn2], h'.2.bel⟩)
    clear hb hlz
    go_enter Try.func5, Try.ntmps5
    go_wp2_with fail
    refine (A1.out _).mono ?_
    rintro e w0 ⟨rfl, h0⟩
    have H0 := Lib.hid h0; clear h0
    go_wp2_with fail
    refine (new_any _).mono ?_
    rintro e w1 ⟨rfl, h1, h2⟩
    have M1 := Lib.hid (Mine.new H0.out H0.out.size h1 h2); clear h1 h2
    go_wp2_with fail
    refine (C1.out M1.out).mono ?_
    rintro e w2 ⟨rfl, m2⟩
    have M2 := Lib.hid m2; clear m2
    go_wp2_with fail
    refine (C2.out M2.out).mono ?_
    rintro e w3 ⟨rfl, m3⟩
    have M3 := Lib.hid m3; clear m3
    go_wp2_with fail
    refine (C3.out M3.out).mono ?_
    rintro e w4 ⟨⟨v', rfl, hB⟩, m4, _⟩
    obtain ⟨g, c', rfl, hcell⟩ : ∃ g c', v' = .slice (some ⟨g, 0, none⟩) 8 c' ∧ ∀ j u, ((bytesS n).map byC)[j]? = some u → w4.cell? ⟨g, 0 + j, none⟩ = some u := by
      rcases hB.2 with ⟨_, h4⟩ | ⟨g', cap', cur, rfl, _⟩
      · exact absurd h4 (by show ¬ (8 = 0); decide)
      · exact ⟨g', cap', rfl, fun j u hj => by have := hB.cells (g := g') rfl j u hj; rwa [Addr.add_lit] at this⟩
    have M4 := Lib.hid m4; clear m4 hB
    have b0 : w4.cell? ⟨g, 0, none⟩ = some (.int .u8 (n / 1 % 256)) := by
      have h := hcell 0 (byC (byteN n 1)) rfl
      rw [byC_byteN, IntKind.wrap_u64, cell_byte n 1 (by decide) (by decide)] at h
      simpa using h
    have b1 : w4.cell? ⟨g, 1, none⟩ = some (.int .u8 (n / 256 % 256)) := by
      have h := hcell 1 (byC (byteN n 256)) rfl
      rw [byC_byteN, IntKind.wrap_u64, cell_byte n 256 (by decide) (by decide)] at h
      simpa using h
    have b2 : w4.cell? ⟨g, 2, none⟩ = some (.int .u8 (n / 65536 % 256)) := by
      have h := hcell 2 (byC (byteN n 65536)) rfl
      rw [byC_byteN, IntKind.wrap_u64, cell_byte n 65536 (by decide) (by decide)] at h
      simpa using h
    have b3 : w4.cell? ⟨g, 3, none⟩ = some (.int .u8 (n / 16777216 % 256)) := by
      have h := hcell 3 (byC (byteN n 16777216)) rfl
      rw [byC_byteN, IntKind.wrap_u64, cell_byte n 16777216 (by decide) (by decide)] at h
      simpa using h
    have b4 : w4.cell? ⟨g, 4, none⟩ = some (.int .u8 (n / 4294967296 % 256)) := by
      have h := hcell 4 (byC (byteN n 4294967296)) rfl
      rw [byC_byteN, IntKind.wrap_u64, cell_byte n 4294967296 (by decide) (by decide)] at h
      simpa using h
    have b5 : w4.cell? ⟨g, 5, none⟩ = some (.int .u8 (n / 1099511627776 % 256)) := by
      have h := hcell 5 (byC (byteN n 1099511627776)) rfl
      rw [byC_byteN, IntKind.wrap_u64, cell_byte n 1099511627776 (by decide) (by decide)] at h
      simpa using h
    have b6 : w4.cell? ⟨g, 6, none⟩ = some (.int .u8 (n / 281474976710656 % 256)) := by
      have h := hcell 6 (byC (byteN n 281474976710656)) rfl
      rw [byC_byteN, IntKind.wrap_u64, cell_byte n 281474976710656 (by decide) (by decide)] at h
      simpa using h
    have b7 : w4.cell? ⟨g, 7, none⟩ = some (.int .u8 (n / 72057594037927936 % 256)) := by
      have h := hcell 7 (byC (byteN n 72057594037927936)) rfl
      rw [byC_byteN, IntKind.wrap_u64, cell_byte n 72057594037927936 (by decide) (by decide)] at h
      simpa using h
    clear hcell
    go_wp2
    refine wp_loop_rounds 9 ?_
    rw [rounds_succ]
    go_wp2_with fail
    go_quiet (fail)
    go_wp2_with fail
    rw [rounds_succ]
    go_wp2_with fail
    go_quiet (fail)
    go_wp2_with fail
    rw [rounds_succ]
    go_wp2_with fail
    go_quiet (fail)
    go_wp2_with fail
    rw [rounds_succ]
    go_wp2_with fail
    go_quiet (fail)
    go_wp2_with fail
    rw [rounds_succ]
    go_wp2_with fail
    go_quiet (fail)
    go_wp2_with fail
    rw [rounds_succ]
    go_wp2_with fail
    go_quiet (fail)
    go_wp2_with fail
    rw [rounds_succ]
    go_wp2_with fail
    go_quiet (fail)
    go_wp2_with fail
    rw [rounds_succ]
    go_wp2_with fail
    go_quiet (fail)
    go_wp2_with fail
    rw [rounds_succ]
    go_wp2_with fail
    refine (C4.out (M4.out.stay ?_)).mono ?_
    · repeat' (first | exact Below.refl _ _ | refine below_drewN ?_ _)
    rintro e w5 ⟨rfl, m5⟩
    have M5 := Lib.hid m5; clear m5
    go_wp2
    go_ret
    exact ⟨by simp, M5.out⟩
end Go.Proofs.Ytblmppdfdihogaa
