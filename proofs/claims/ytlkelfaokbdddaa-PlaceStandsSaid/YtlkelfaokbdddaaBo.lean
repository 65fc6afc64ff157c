/-
  The laws' both and alike: the program's memory and the document's.
  Conditions: none. (My own text.)
-/
import Derived.Test.YtlkelfaokbdddaaRf2
import Derived.Deep.RegionWith
namespace Go.Proofs.Ytlkelfaokbdddaa
open Go.RowKit Spm
set_option linter.unusedVariables false
set_option linter.unusedSimpArgs false

theorem below_drew2 {B : Nat} {w : World} : Below B w w.drew := ⟨rfl, rfl, rfl, Nat.le_refl _, fun _ _ => rfl⟩
set_option maxRecDepth 100000 in
set_option maxHeartbeats 2000000 in
theorem both15 {B : Nat} {w w1 : World} (hbel : Below B w w1) (hle : B ≤ w1.heap.size) (v : Value) (l : List ActM) (hv : ActsV w B v l) :
    Calls Try.prog 18 #[v] w1 fun e w' => ∃ a c, e = .returned (.tuple #[.pointer (some ⟨a, 0, none⟩), .pointer (some ⟨c, 0, none⟩)]) ∧ Has B w w' (Star (Sp a (playS [] (l.map (·.x)))) (Star (Rf c (playS [] (l.map (·.x)))) Emp)) := by
  obtain ⟨A, c, rfl, hm, hat⟩ := hv.at_
  unfold maxLen at hm
  have HAT := Lib.hid hat; clear hat hv
  have HB := Lib.hid (Has.start hbel hle); clear hbel hle
  go_enter Try.func18, Try.ntmps18
  go_wp2_with fail
  refine (own_new HB.out).mono ?_
  rintro e w2 ⟨a, rfl, m2⟩
  have M1 : Hid (Has B w (w2.alloc (.cells #[.slice none 0 0] 91)) (Star (Rf w2.heap.size (playS [] ((l.map (·.x)).take 0))) (Star (Sp a (playS [] ((l.map (·.x)).take 0))) Emp))) := Lib.hid m2.rnew
  clear m2
  go_wp2_with fail
  generalize w2.heap.size = rf at M1 ⊢
  go_loopw [6] (fun i wr => ∃ k : Nat, k ≤ l.length ∧ i = .int .i64 k ∧ Hid (Has B w wr (Star (Rf rf (playS [] ((l.map (·.x)).take k))) (Star (Sp a (playS [] ((l.map (·.x)).take k))) Emp)))) (fun i _ => l.length - (intOf i).toNat)
  case atStart => exact ⟨0, Nat.zero_le _, rfl, M1⟩
  case round =>
    obtain ⟨k, hk, rfl, hM⟩ := hrel
    by_cases hlt : k < l.length
    · obtain ⟨m, hmk⟩ : ∃ m, l[k]? = some m := ⟨l[k], List.getElem?_eq_getElem hlt⟩
      obtain ⟨b, off, rfl, hb, hok, hcell⟩ := HAT.out k m hmk
      have c0 : wr.cell? ⟨b, off + k * 5, none⟩ = some (.int .i64 m.x.d) := (hM.out.bel.cell (p := ⟨b, off + k * 5, none⟩) hb).trans (hcell 0 _ rfl)
      have c1 : wr.cell? ⟨b, off + k * 5 + 1, none⟩ = some (.int .i64 m.x.at_) := (hM.out.bel.cell (p := ⟨b, off + k * 5 + 1, none⟩) hb).trans (hcell 1 _ rfl)
      have c2 : wr.cell? ⟨b, off + k * 5 + 2, none⟩ = some (.int .i64 m.x.n) := (hM.out.bel.cell (p := ⟨b, off + k * 5 + 2, none⟩) hb).trans (hcell 2 _ rfl)
      have c3 : wr.cell? ⟨b, off + k * 5 + 3, none⟩ = some (.int .i64 m.x.p) := (hM.out.bel.cell (p := ⟨b, off + k * 5 + 3, none⟩) hb).trans (hcell 3 _ rfl)
      have c4 : wr.cell? ⟨b, off + k * 5 + 4, none⟩ = some (.slice m.A m.x.b.length m.c) := (hM.out.bel.cell (p := ⟨b, off + k * 5 + 4, none⟩) hb).trans (hcell 4 _ rfl)
      have HC := Lib.hid hcell
      have C1 := Lib.hid (own_does hM.out.swap m hok.rng (hok.src.src hM.out.bel))
      have C2 := Lib.hid (fun (L1 L2 : List Rg) (w3 : World) (h3 : Has B w w3 (Star (Rf rf L1) (Star (Sp a L2) Emp))) => own_model h3 m hok.rng hok.src)
      have HS := Lib.hid (playS_snoc [] (l.map (·.x)) k m.x (by rw [List.getElem?_map, hmk]; rfl))
      clear hcell hok hmk
      go_wp2_with fail
      refine (C1.out).mono ?_
      rintro e w3 ⟨rfl, m3⟩
      have M3 := Lib.hid m3.swap; clear m3
      have d0 : w3.cell? ⟨b, off + k * 5, none⟩ = some (.int .i64 m.x.d) := (M3.out.bel.cell (p := ⟨b, off + k * 5, none⟩) hb).trans (HC.out 0 _ rfl)
      have d1 : w3.cell? ⟨b, off + k * 5 + 1, none⟩ = some (.int .i64 m.x.at_) := (M3.out.bel.cell (p := ⟨b, off + k * 5 + 1, none⟩) hb).trans (HC.out 1 _ rfl)
      have d2 : w3.cell? ⟨b, off + k * 5 + 2, none⟩ = some (.int .i64 m.x.n) := (M3.out.bel.cell (p := ⟨b, off + k * 5 + 2, none⟩) hb).trans (HC.out 2 _ rfl)
      have d3 : w3.cell? ⟨b, off + k * 5 + 3, none⟩ = some (.int .i64 m.x.p) := (M3.out.bel.cell (p := ⟨b, off + k * 5 + 3, none⟩) hb).trans (HC.out 3 _ rfl)
      have d4 : w3.cell? ⟨b, off + k * 5 + 4, none⟩ = some (.slice m.A m.x.b.length m.c) := (M3.out.bel.cell (p := ⟨b, off + k * 5 + 4, none⟩) hb).trans (HC.out 4 _ rfl)
      go_wp2_with fail
      refine (C2.out _ _ _ M3.out).mono ?_
      rintro e w4 ⟨rfl, m4⟩
      have M4 : Hid (Has B w w4 (Star (Rf rf (playS [] ((l.map (·.x)).take (k + 1)))) (Star (Sp a (playS [] ((l.map (·.x)).take (k + 1)))) Emp))) := Lib.hid (by rw [HS.out]; exact m4)
      clear m4
      go_wp2
      go_roundw
      case rel => exact ⟨k + 1, by omega, by go_num, M4⟩
      case measure => simp [intOf]; omega
    · have H1 : Hid (Has B w wr (Star (Sp a (playS [] (l.map (·.x)))) (Star (Rf rf (playS [] (l.map (·.x)))) Emp))) := Lib.hid (by
        have h := hM.out.swap
        rwa [List.take_of_length_le (by rw [List.length_map]; omega)] at h)
      go_wp2
      go_ret2
      exact ⟨a, rf, rfl, H1.out⟩

set_option maxRecDepth 100000 in
set_option maxHeartbeats 2000000 in
theorem alike15 {B : Nat} {w w1 : World} {a c : Nat} {L : List Rg} {Y : Res} [hY : Fr Y] (hM : Has B w w1 (Star (Sp a L) (Star (Rf c L) Y))) :
    Calls Try.prog 22 #[.pointer (some ⟨a, 0, none⟩), .pointer (some ⟨c, 0, none⟩)] w1 fun e w' => e = .returned (.bool true) ∧ Has B w w' (Star (Sp a L) (Star (Rf c L) Y)) := by
  have HM := Lib.hid hM
  have HOK := Lib.hid hM.ok
  clear hM
  go_enter Try.func22, Try.ntmps22
  go_wp2_with fail
  refine (own_regions HM.out).mono ?_
  rintro e w2 ⟨v, rfl, m2⟩
  have M2 := Lib.hid m2.r3; clear m2 HM
  go_wp2_with fail
  refine (own_rregions M2.out).mono ?_
  rintro e w3 ⟨v3, rfl, m3⟩
  have M3 := Lib.hid m3; clear m3 M2
  go_wp2_with fail
  refine (same_any M3.out.r3.rs M3.out.rs rfl).mono ?_
  rintro e w4 ⟨rfl, h4⟩
  have M4 := Lib.hid (M3.out.stay h4).right.r3; clear h4 M3
  obtain ⟨A, k0, rfl, hc, hm, hrow⟩ := M4.out.r3.rs.at_
  unfold maxLen at hm
  have hle4 : L.length ≤ 9223372036854775807 := by omega
  go_wp2_with fail
  go_loopw [6] (fun i wr => ∃ k : Nat, k ≤ L.length ∧ i = .int .i64 k ∧ Hid (Has B w wr (Star (Sp a L) (Star (Rf c L) (Star (Rs (.slice A L.length k0) L) Y))))) (fun i _ => L.length - (intOf i).toNat)
  case atStart => exact ⟨0, Nat.zero_le _, rfl, Lib.hid M4.out⟩
  case round =>
    obtain ⟨k, hk, rfl, hM⟩ := hrel
    by_cases hlt : k < L.length
    · obtain ⟨r, hr⟩ : ∃ r, L[k]? = some r := ⟨L[k], List.getElem?_eq_getElem hlt⟩
      obtain ⟨A', k0', hv', hc', hm', hrow'⟩ := hM.out.r3.rs.at_
      simp only [Value.slice.injEq, true_and] at hv'
      obtain ⟨rfl, rfl⟩ := hv'
      obtain ⟨g, rfl, hg, hcell⟩ := hrow' k r hr
      have HRK := Lib.hid hr
      have hRg := HOK.out.each r (List.mem_of_getElem? hr)
      obtain ⟨ra, rs, rp, rb⟩ := r
      have c0 : wr.cell? ⟨g, k * 3, none⟩ = some (.int .i64 ra) := hcell 0 _ rfl
      have c1 : wr.cell? ⟨g, k * 3 + 1, none⟩ = some (.int .i64 rs) := hcell 1 _ rfl
      have hbnd : I64 ra ∧ I64 rs ∧ ra ≤ 9223372036854775807 := by
        obtain ⟨q1, q2, q3, q4, q5, q6, q7, q8⟩ := hRg
        simp only at q1 q2 q3 q4 q5 q6
        unfold I64
        omega
      obtain ⟨b1, b2, b3⟩ := hbnd
      have MD := Lib.hid (hM.out.stay below_drew2)
      have C1 := Lib.hid (own_peek MD.out ra b3 rs)
      clear hcell hrow' hRg hr hM
      have i0 : (0 : Int) ≤ (k : Int) := by omega
      have i1 : (k : Int) < (L.length : Int) := by omega
      go_wp2_with fail
      go_region_with (go_at_call 12; refine (C1.out).mono ?_; rintro e w5 ⟨v5, rfl, m5⟩)
      all_goals
        have M5 := Lib.hid m5; clear m5 MD C1
        obtain ⟨A', k0', hv', hc', hm', hrow'⟩ := M5.out.r4.rs.at_
        simp only [Value.slice.injEq, true_and] at hv'
        obtain ⟨hv1, rfl⟩ := hv'
        obtain ⟨g', hv2, hg', hcell⟩ := hrow' k ⟨ra, rs, rp, rb⟩ HRK.out
        rw [hv2] at hv1
        simp only [Option.some.injEq, Addr.mk.injEq, and_true] at hv1
        obtain ⟨rfl⟩ := hv1
        have d0 : w5.cell? ⟨g, k * 3, none⟩ = some (.int .i64 ra) := hcell 0 _ rfl
        have d1 : w5.cell? ⟨g, k * 3 + 1, none⟩ = some (.int .i64 rs) := hcell 1 _ rfl
        have MD5 := Lib.hid (M5.out.r3.stay below_drew2)
        have C2 := Lib.hid (own_rget MD5.out ra b1 rs 0 b2 (Or.inl rfl))
        clear hcell hrow' hv2 M5
        go_wp2_with fail
        go_region_with (go_at_call 46; refine (C2.out).mono ?_; rintro e w6 ⟨v6, rfl, m6⟩)
        all_goals
          have k6 := m6.bt.conv
          have k5 := m6.r3.bt.conv
          have M6 := Lib.hid m6.right.swap.right.swap
          clear m6 MD5 C2 HRK
          generalize (getS L ra rs 0).2 = E at *
          generalize strB (getS L ra rs 0).1 = S at *
          go_wp2
          go_roundw
          case rel => exact ⟨k + 1, by omega, by go_num, M6⟩
          case measure => simp [intOf]; omega
    · have H1 := Lib.hid (hM.out.imp fun _ => Star.under fun _ => Star.under fun _ ⟨F1, F2, h1, h2, hd, g1, g2⟩ => hY.mono h2 (fun k hk _ => g2 k hk))
      go_wp2
      go_ret
      exact ⟨rfl, H1.out⟩

end Go.Proofs.Ytlkelfaokbdddaa
