/-
  Layer 6: the law's both: two memories behind some acts, with code in them.
  Conditions: none. (My own text.)
-/
import Derived.Test.YtkpaeogjefjbfaaBo
import Derived.Test.YtkpaeogjefjbfaaCby
import Derived.Test.YtkpaeogjefjbfaaCdd
import Derived.Test.YtkpaeogjefjbfaaCpa
import Derived.Test.YtkpaeogjefjbfaaSp5
namespace Go.Proofs.Ytkpaeogjefjbfaa
open Go.RowKit Spm
set_option linter.unusedVariables false
set_option linter.unusedSimpArgs false

def pokeS (q : List Rg × Int) (i : Ins) : List Rg × Int := if mayS i = true then ((setS q.1 q.2 (encS i) 0).1, wrap64 (q.2 + 8)) else q
def codeS (L : List Rg) (at_ : Int) (is : List Ins) : List Rg × Int := is.foldl pokeS (L, at_)
theorem codeS_snoc (L : List Rg) (at_ : Int) (is : List Ins) (k : Nat) (i : Ins) (h : is[k]? = some i) : codeS L at_ (is.take (k + 1)) = pokeS (codeS L at_ (is.take k)) i := by
  obtain ⟨hk, he⟩ := List.getElem?_eq_some_iff.1 h
  rw [List.take_succ_eq_append_getElem hk, he]
  unfold codeS
  rw [List.foldl_append]
  rfl
theorem codeS_i64 (is : List Ins) : ∀ (L : List Rg) (at_ : Int), I64 at_ → I64 (codeS L at_ is).2 := by
  induction is with
  | nil => intro L at_ h; exact h
  | cons i is ih =>
    intro L at_ h
    unfold codeS
    rw [List.foldl_cons]
    have : I64 (pokeS (L, at_) i).2 := by
      unfold pokeS; split
      · unfold I64 wrap64; omega
      · exact h
    exact ih _ _ this
theorem pokeS_ok {q : List Rg × Int} (h : Ok q.1) (i : Ins) : Ok (pokeS q i).1 := by
  unfold pokeS; split
  · exact h.set _ _ _
  · exact h
theorem codeS_ok (is : List Ins) : ∀ (L : List Rg) (at_ : Int), Ok L → Ok (codeS L at_ is).1 := by
  induction is with
  | nil => intro L at_ h; exact h
  | cons i is ih =>
    intro L at_ h
    unfold codeS
    rw [List.foldl_cons]
    exact ih _ _ (pokeS_ok (q := (L, at_)) h i)
theorem AwayB.of_bt {B : Nat} {wr : World} {A : Option Addr} {c : Nat} {b : List UInt8} {Y : Res} : AwayB A b B wr (Star (Bt (.slice A b.length c) b) Y) := by
  intro F G hY hd hB hn
  obtain ⟨G1, G2, ⟨hb, hg⟩, _, _, hs, _⟩ := hY
  obtain ⟨A', c', e, _, _, hsrc⟩ := hb.src'
  simp only [Value.slice.injEq, true_and] at e
  obtain ⟨rfl, rfl⟩ := e
  obtain ⟨bb, off, rfl, hcell⟩ := hsrc hn
  exact ⟨bb, off, rfl, fun hf => hd bb hf (hs bb (hg bb rfl)), (hb.lt bb rfl).2, hcell⟩

set_option maxRecDepth 100000 in
set_option maxHeartbeats 8000000 in
theorem both06 {B : Nat} {w w1 : World} (hbel : Below B w w1) (hle : B ≤ w1.heap.size) (va vc : Value) (l : List ActM) (hv : ActsV w B va l) (is : List Ins) (hi : RowsAt 5 Ins.cells w (fun k => k < B) vc is) (at_ : Int) (hat_ : I64 at_) (C : Ctx) :
    Calls Try.prog 16 #[.agg #[va, vc, .int .i64 at_, .int .i64 C.pc, .int .i64 C.tp, .int .i64 (C.r 0), .int .i64 (C.r 1), .int .i64 (C.r 2), .int .i64 (C.r 3), .int .i64 (C.r 4), .int .i64 (C.r 5), .int .i64 (C.r 6), .int .i64 (C.r 7), .int .i64 (C.r 8), .int .i64 (C.r 9), .int .i64 (C.r 10), .int .i64 (C.r 11), .int .i64 (C.r 12), .int .i64 (C.r 13), .int .i64 (C.r 14), .int .i64 (C.r 15)]] w1 fun e w' => ∃ a c, e = .returned (.tuple #[.pointer (some ⟨a, 0, none⟩), .pointer (some ⟨c, 0, none⟩), .bool true]) ∧ Has B w w' (Star (Sp a (codeS (playS [] (l.map (·.x))) at_ is).1) (Star (Rf c (codeS (playS [] (l.map (·.x))) at_ is).1) Emp)) := by
  obtain ⟨A, c, rfl, hm, hat⟩ := hv.at_
  obtain ⟨A2, c2, rfl, hm2, hm3, hat2⟩ := hi
  unfold maxLen at hm hm3
  obtain ⟨va, hva⟩ : ∃ va, Value.slice A l.length c = va := ⟨_, rfl⟩
  obtain ⟨vc, hvc⟩ : ∃ vc, Value.slice A2 is.length c2 = vc := ⟨_, rfl⟩
  rw [hva, hvc]
  have HVA := Lib.hid hva.symm
  have HVC := Lib.hid hvc.symm
  have HAT := Lib.hid hat
  have HAT2 := Lib.hid hat2
  have HI := Lib.hid hat_
  clear hat hv hat2 hva hvc hat_
  have HB := Lib.hid ((Has.start hbel hle).newcel 46 #[va, vc, .int .i64 at_, .int .i64 C.pc, .int .i64 C.tp, .int .i64 (C.r 0), .int .i64 (C.r 1), .int .i64 (C.r 2), .int .i64 (C.r 3), .int .i64 (C.r 4), .int .i64 (C.r 5), .int .i64 (C.r 6), .int .i64 (C.r 7), .int .i64 (C.r 8), .int .i64 (C.r 9), .int .i64 (C.r 10), .int .i64 (C.r 11), .int .i64 (C.r 12), .int .i64 (C.r 13), .int .i64 (C.r 14), .int .i64 (C.r 15)]); clear hbel hle
  obtain ⟨Q, hQ⟩ : ∃ Q, playS [] (l.map (·.x)) = Q := ⟨_, rfl⟩
  rw [hQ]
  have HQ := Lib.hid hQ
  clear hQ
  go_enter Try.func16, Try.ntmps16
  go_wp2_with fail
  generalize w1.heap.size = g at HB ⊢
  refine (own_new HB.out).mono ?_
  rintro e w2 ⟨a, rfl, m2⟩
  have M1 : Hid (Has B w (w2.alloc (.cells #[.slice none 0 0] 74)) (Star (Rf w2.heap.size (playS [] ((l.map (·.x)).take 0))) (Star (Sp a (playS [] ((l.map (·.x)).take 0))) (Star (Cel g 46 #[va, vc, .int .i64 at_, .int .i64 C.pc, .int .i64 C.tp, .int .i64 (C.r 0), .int .i64 (C.r 1), .int .i64 (C.r 2), .int .i64 (C.r 3), .int .i64 (C.r 4), .int .i64 (C.r 5), .int .i64 (C.r 6), .int .i64 (C.r 7), .int .i64 (C.r 8), .int .i64 (C.r 9), .int .i64 (C.r 10), .int .i64 (C.r 11), .int .i64 (C.r 12), .int .i64 (C.r 13), .int .i64 (C.r 14), .int .i64 (C.r 15)]) Emp)))) := Lib.hid m2.rnew
  clear m2
  go_wp2_with fail
  generalize w2.heap.size = rf at M1 ⊢
  go_loopw [7] (fun i wr => ∃ k : Nat, k ≤ l.length ∧ i = .int .i64 k ∧ Hid (Has B w wr (Star (Rf rf (playS [] ((l.map (·.x)).take k))) (Star (Sp a (playS [] ((l.map (·.x)).take k))) (Star (Cel g 46 #[va, vc, .int .i64 at_, .int .i64 C.pc, .int .i64 C.tp, .int .i64 (C.r 0), .int .i64 (C.r 1), .int .i64 (C.r 2), .int .i64 (C.r 3), .int .i64 (C.r 4), .int .i64 (C.r 5), .int .i64 (C.r 6), .int .i64 (C.r 7), .int .i64 (C.r 8), .int .i64 (C.r 9), .int .i64 (C.r 10), .int .i64 (C.r 11), .int .i64 (C.r 12), .int .i64 (C.r 13), .int .i64 (C.r 14), .int .i64 (C.r 15)]) Emp))))) (fun i _ => l.length - (intOf i).toNat)
  case atStart => exact ⟨0, Nat.zero_le _, rfl, M1⟩
  case round =>
    obtain ⟨k, hk, rfl, hM⟩ := hrel
    by_cases hlt : k < l.length
    · obtain ⟨m, hmk⟩ : ∃ m, l[k]? = some m := ⟨l[k], List.getElem?_eq_getElem hlt⟩
      obtain ⟨b, off, hA, hb, hok, hcell⟩ := HAT.out k m hmk
      have g0 : wr.cell? ⟨g, 0, none⟩ = some (.slice A l.length c) := by rw [hM.out.r3.cel.cell, ← HVA.out]; rfl
      have c0 : wr.cell? ⟨b, off + k * 5, none⟩ = some (.int .i64 m.x.d) := (hM.out.bel.cell (p := ⟨b, off + k * 5, none⟩) hb).trans (hcell 0 _ rfl)
      have c1 : wr.cell? ⟨b, off + k * 5 + 1, none⟩ = some (.int .i64 m.x.at_) := (hM.out.bel.cell (p := ⟨b, off + k * 5 + 1, none⟩) hb).trans (hcell 1 _ rfl)
      have c2 : wr.cell? ⟨b, off + k * 5 + 2, none⟩ = some (.int .i64 m.x.n) := (hM.out.bel.cell (p := ⟨b, off + k * 5 + 2, none⟩) hb).trans (hcell 2 _ rfl)
      have c3 : wr.cell? ⟨b, off + k * 5 + 3, none⟩ = some (.int .i64 m.x.p) := (hM.out.bel.cell (p := ⟨b, off + k * 5 + 3, none⟩) hb).trans (hcell 3 _ rfl)
      have c4 : wr.cell? ⟨b, off + k * 5 + 4, none⟩ = some (.slice m.A m.x.b.length m.c) := (hM.out.bel.cell (p := ⟨b, off + k * 5 + 4, none⟩) hb).trans (hcell 4 _ rfl)
      have HC := Lib.hid hcell
      have C1 := Lib.hid (own_does hM.out.swap m hok.rng (hok.src.src hM.out.bel))
      have C2 := Lib.hid (fun (L1 L2 : List Rg) (w3 : World) (h3 : Has B w w3 (Star (Rf rf L1) (Star (Sp a L2) (Star (Cel g 46 #[va, vc, .int .i64 at_, .int .i64 C.pc, .int .i64 C.tp, .int .i64 (C.r 0), .int .i64 (C.r 1), .int .i64 (C.r 2), .int .i64 (C.r 3), .int .i64 (C.r 4), .int .i64 (C.r 5), .int .i64 (C.r 6), .int .i64 (C.r 7), .int .i64 (C.r 8), .int .i64 (C.r 9), .int .i64 (C.r 10), .int .i64 (C.r 11), .int .i64 (C.r 12), .int .i64 (C.r 13), .int .i64 (C.r 14), .int .i64 (C.r 15)]) Emp)))) => own_model h3 m hok.rng hok.src)
      have HS := Lib.hid (playS_snoc [] (l.map (·.x)) k m.x (by rw [List.getElem?_map, hmk]; rfl))
      clear hcell hok hmk
      rw [hA] at g0
      go_wp2_with fail
      refine (C1.out).mono ?_
      rintro e w3 ⟨rfl, m3⟩
      have M3 := Lib.hid m3.swap; clear m3
      have h0 : w3.cell? ⟨g, 0, none⟩ = some (.slice (some ⟨b, off, none⟩) l.length c) := by rw [M3.out.r3.cel.cell, ← hA, ← HVA.out]; rfl
      have d0 : w3.cell? ⟨b, off + k * 5, none⟩ = some (.int .i64 m.x.d) := (M3.out.bel.cell (p := ⟨b, off + k * 5, none⟩) hb).trans (HC.out 0 _ rfl)
      have d1 : w3.cell? ⟨b, off + k * 5 + 1, none⟩ = some (.int .i64 m.x.at_) := (M3.out.bel.cell (p := ⟨b, off + k * 5 + 1, none⟩) hb).trans (HC.out 1 _ rfl)
      have d2 : w3.cell? ⟨b, off + k * 5 + 2, none⟩ = some (.int .i64 m.x.n) := (M3.out.bel.cell (p := ⟨b, off + k * 5 + 2, none⟩) hb).trans (HC.out 2 _ rfl)
      have d3 : w3.cell? ⟨b, off + k * 5 + 3, none⟩ = some (.int .i64 m.x.p) := (M3.out.bel.cell (p := ⟨b, off + k * 5 + 3, none⟩) hb).trans (HC.out 3 _ rfl)
      have d4 : w3.cell? ⟨b, off + k * 5 + 4, none⟩ = some (.slice m.A m.x.b.length m.c) := (M3.out.bel.cell (p := ⟨b, off + k * 5 + 4, none⟩) hb).trans (HC.out 4 _ rfl)
      go_wp2_with fail
      refine (C2.out _ _ _ M3.out).mono ?_
      rintro e w4 ⟨rfl, m4⟩
      have M4 : Hid (Has B w w4 (Star (Rf rf (playS [] ((l.map (·.x)).take (k + 1)))) (Star (Sp a (playS [] ((l.map (·.x)).take (k + 1)))) (Star (Cel g 46 #[va, vc, .int .i64 at_, .int .i64 C.pc, .int .i64 C.tp, .int .i64 (C.r 0), .int .i64 (C.r 1), .int .i64 (C.r 2), .int .i64 (C.r 3), .int .i64 (C.r 4), .int .i64 (C.r 5), .int .i64 (C.r 6), .int .i64 (C.r 7), .int .i64 (C.r 8), .int .i64 (C.r 9), .int .i64 (C.r 10), .int .i64 (C.r 11), .int .i64 (C.r 12), .int .i64 (C.r 13), .int .i64 (C.r 14), .int .i64 (C.r 15)]) Emp)))) := Lib.hid (by rw [HS.out]; exact m4)
      clear m4
      go_wp2
      go_roundw
      case rel => exact ⟨k + 1, by omega, by go_num, M4⟩
      case measure => simp [intOf]; omega
    · have N0 : Hid (Has B w wr (Star (Rf rf (codeS Q at_ (is.take 0)).1) (Star (Sp a (codeS Q at_ (is.take 0)).1) (Star (Cel g 46 #[va, vc, .int .i64 (codeS Q at_ (is.take 0)).2, .int .i64 C.pc, .int .i64 C.tp, .int .i64 (C.r 0), .int .i64 (C.r 1), .int .i64 (C.r 2), .int .i64 (C.r 3), .int .i64 (C.r 4), .int .i64 (C.r 5), .int .i64 (C.r 6), .int .i64 (C.r 7), .int .i64 (C.r 8), .int .i64 (C.r 9), .int .i64 (C.r 10), .int .i64 (C.r 11), .int .i64 (C.r 12), .int .i64 (C.r 13), .int .i64 (C.r 14), .int .i64 (C.r 15)]) Emp)))) := Lib.hid (by
        have h := hM.out
        rw [List.take_of_length_le (by rw [List.length_map]; omega), HQ.out] at h
        exact h)
      have g0 : wr.cell? ⟨g, 0, none⟩ = some (.slice A l.length c) := by rw [hM.out.r3.cel.cell, ← HVA.out]; rfl
      clear hM HAT
      go_wp2_with fail
      clear g0
      obtain ⟨wo, hwo⟩ : ∃ wo : World, wo = wr := ⟨_, rfl⟩
      rw [← hwo] at N0 ⊢
      clear hwo
      go_loopw [8] (fun i wr => ∃ k : Nat, k ≤ is.length ∧ i = .int .i64 k ∧ Hid (Has B w wr (Star (Rf rf (codeS Q at_ (is.take k)).1) (Star (Sp a (codeS Q at_ (is.take k)).1) (Star (Cel g 46 #[va, vc, .int .i64 (codeS Q at_ (is.take k)).2, .int .i64 C.pc, .int .i64 C.tp, .int .i64 (C.r 0), .int .i64 (C.r 1), .int .i64 (C.r 2), .int .i64 (C.r 3), .int .i64 (C.r 4), .int .i64 (C.r 5), .int .i64 (C.r 6), .int .i64 (C.r 7), .int .i64 (C.r 8), .int .i64 (C.r 9), .int .i64 (C.r 10), .int .i64 (C.r 11), .int .i64 (C.r 12), .int .i64 (C.r 13), .int .i64 (C.r 14), .int .i64 (C.r 15)]) Emp))))) (fun i _ => is.length - (intOf i).toNat)
      case atStart => exact ⟨0, Nat.zero_le _, rfl, N0⟩
      case round =>
        obtain ⟨k, hk, rfl, hM⟩ := hrel
        by_cases hlt : k < is.length
        · obtain ⟨i, hik⟩ : ∃ i, is[k]? = some i := ⟨is[k], List.getElem?_eq_getElem hlt⟩
          obtain ⟨b, off, hA, hb, hbs, hcell⟩ := HAT2.out k i hik
          have HS := Lib.hid (codeS_snoc Q at_ is k i hik)
          have HCI := Lib.hid (codeS_i64 (is.take k) Q at_ HI.out)
          obtain ⟨M, hMq⟩ : ∃ M, (codeS Q at_ (is.take k)).1 = M := ⟨_, rfl⟩
          obtain ⟨x, hxq⟩ : ∃ x, (codeS Q at_ (is.take k)).2 = x := ⟨_, rfl⟩
          have hq : codeS Q at_ (is.take k) = (M, x) := Prod.ext hMq hxq
          rw [hq] at HS HCI
          rw [hMq, hxq] at hM
          clear hMq hxq hq hik
          have HCELL := Lib.hid hcell
          obtain ⟨op, ia, ib, ic, inn⟩ := i
          have g0 : wr.cell? ⟨g, 1, none⟩ = some (.slice (some ⟨b, off, none⟩) is.length c2) := by rw [hM.out.r3.cel.cell, ← hA, ← HVC.out]; rfl
          have c0 : wr.cell? ⟨b, off + k * 5, none⟩ = some (.int .i64 op) := (hM.out.bel.cell (p := ⟨b, off + k * 5, none⟩) hb).trans (hcell 0 _ rfl)
          have c1 : wr.cell? ⟨b, off + k * 5 + 1, none⟩ = some (.int .i64 ia) := (hM.out.bel.cell (p := ⟨b, off + k * 5 + 1, none⟩) hb).trans (hcell 1 _ rfl)
          have c2 : wr.cell? ⟨b, off + k * 5 + 2, none⟩ = some (.int .i64 ib) := (hM.out.bel.cell (p := ⟨b, off + k * 5 + 2, none⟩) hb).trans (hcell 2 _ rfl)
          have c3 : wr.cell? ⟨b, off + k * 5 + 3, none⟩ = some (.int .i64 ic) := (hM.out.bel.cell (p := ⟨b, off + k * 5 + 3, none⟩) hb).trans (hcell 3 _ rfl)
          have c4 : wr.cell? ⟨b, off + k * 5 + 4, none⟩ = some (.int .i64 inn) := (hM.out.bel.cell (p := ⟨b, off + k * 5 + 4, none⟩) hb).trans (hcell 4 _ rfl)
          have C1 := Lib.hid (rmay_any ⟨op, ia, ib, ic, inn⟩ wr)
          unfold Ins.val at C1
          try simp only at C1
          clear hcell
          go_wp2_with fail
          refine (C1.out).mono ?_
          rintro e w3 ⟨rfl, hb3⟩
          have M3 := Lib.hid (hM.out.stay hb3)
          clear hM hb3 C1 c0 c1 c2 c3 c4 g0
          by_cases hmay : mayS ⟨op, ia, ib, ic, inn⟩ = true
          · have C2 := Lib.hid (bytes_any ⟨op, ia, ib, ic, inn⟩ hmay w3)
            have HS2 : Hid (codeS Q at_ (is.take (k + 1)) = ((setS M x (encS ⟨op, ia, ib, ic, inn⟩) 0).1, wrap64 (x + 8))) := Lib.hid (by rw [HS.out]; unfold pokeS; rw [if_pos hmay])
            rw [hmay]
            unfold Ins.val at C2
            try simp only at C2
            have g0 : w3.cell? ⟨g, 1, none⟩ = some (.slice (some ⟨b, off, none⟩) is.length c2) := by rw [M3.out.r3.cel.cell, ← hA, ← HVC.out]; rfl
            have c0 : w3.cell? ⟨b, off + k * 5, none⟩ = some (.int .i64 op) := (M3.out.bel.cell (p := ⟨b, off + k * 5, none⟩) hb).trans (HCELL.out 0 _ rfl)
            have c1 : w3.cell? ⟨b, off + k * 5 + 1, none⟩ = some (.int .i64 ia) := (M3.out.bel.cell (p := ⟨b, off + k * 5 + 1, none⟩) hb).trans (HCELL.out 1 _ rfl)
            have c2 : w3.cell? ⟨b, off + k * 5 + 2, none⟩ = some (.int .i64 ib) := (M3.out.bel.cell (p := ⟨b, off + k * 5 + 2, none⟩) hb).trans (HCELL.out 2 _ rfl)
            have c3 : w3.cell? ⟨b, off + k * 5 + 3, none⟩ = some (.int .i64 ic) := (M3.out.bel.cell (p := ⟨b, off + k * 5 + 3, none⟩) hb).trans (HCELL.out 3 _ rfl)
            have c4 : w3.cell? ⟨b, off + k * 5 + 4, none⟩ = some (.int .i64 inn) := (M3.out.bel.cell (p := ⟨b, off + k * 5 + 4, none⟩) hb).trans (HCELL.out 4 _ rfl)
            go_wp2_with fail
            refine (C2.out).mono ?_
            rintro e w4 ⟨v, rfl, hbv, hb4⟩
            obtain ⟨A4, c4', rfl, hc41, hc42, _⟩ := hbv.src'
            have M4 := Lib.hid (M3.out.bytes hbv hb4)
            clear hbv hb4 C2 M3 g0 c0 c1 c2 c3 c4
            have h2 : w4.cell? ⟨g, 2, none⟩ = some (.int .i64 x) := by rw [M4.out.r4.cel.cell]; rfl
            have hsr : SrcB w4 A4 (encS ⟨op, ia, ib, ic, inn⟩) := by
              obtain ⟨A', c', e', _, _, hs⟩ := M4.out.bt.src'
              simp only [Value.slice.injEq, true_and] at e'
              obtain ⟨rfl, rfl⟩ := e'
              exact hs
            have C3 := Lib.hid (own_poke M4.out.r3 x HCI.out.2 A4 c4' (encS ⟨op, ia, ib, ic, inn⟩) (show 8 ≤ 9223372036854775807 by omega) hsr)
            clear hsr
            have HL8 : (encS ⟨op, ia, ib, ic, inn⟩).length = 8 := rfl
            rw [HL8] at C3 hc41 ⊢
            go_wp2_with fail
            refine (C3.out).mono ?_
            rintro e w5 ⟨rfl, m5⟩
            have M5 := Lib.hid m5.r3; clear m5 C3 M4 h2
            have h2 : w5.cell? ⟨g, 2, none⟩ = some (.int .i64 x) := by rw [M5.out.r4.cel.cell]; rfl
            have C4 := Lib.hid (own_rset (h := M5.out.r3.swap) x HCI.out A4 c4' (encS ⟨op, ia, ib, ic, inn⟩) (show 8 ≤ 9223372036854775807 by omega) 0 (.inl rfl) AwayB.of_bt)
            rw [HL8] at C4
            go_wp2_with fail
            refine (C4.out).mono ?_
            rintro e w6 ⟨rfl, m6⟩
            clear C4 M5 h2
            have h2 : w6.cell? ⟨g, 2, none⟩ = some (.int .i64 x) := by rw [m6.r4.cel.cell]; rfl
            have f2 : w6.frozen? ⟨g, 2, none⟩ = false := m6.r4.cel.free 2
            have M7 : Hid (Has B w (w6.setCell ⟨g, 2, none⟩ (.int .i64 (wrap64 (x + 8)))) (Star (Rf rf (codeS Q at_ (is.take (k + 1))).1) (Star (Sp a (codeS Q at_ (is.take (k + 1))).1) (Star (Cel g 46 #[va, vc, .int .i64 (codeS Q at_ (is.take (k + 1))).2, .int .i64 C.pc, .int .i64 C.tp, .int .i64 (C.r 0), .int .i64 (C.r 1), .int .i64 (C.r 2), .int .i64 (C.r 3), .int .i64 (C.r 4), .int .i64 (C.r 5), .int .i64 (C.r 6), .int .i64 (C.r 7), .int .i64 (C.r 8), .int .i64 (C.r 9), .int .i64 (C.r 10), .int .i64 (C.r 11), .int .i64 (C.r 12), .int .i64 (C.r 13), .int .i64 (C.r 14), .int .i64 (C.r 15)]) Emp)))) := Lib.hid (by rw [HS2.out]; exact (m6.r4.store 2 (.int .i64 (wrap64 (x + 8)))).r3.right.r3.r3)
            clear m6
            go_wp2
            go_roundw
            case rel => exact ⟨k + 1, by omega, by go_num, M7⟩
            case measure => simp [intOf]; omega
          · have hmf : mayS ⟨op, ia, ib, ic, inn⟩ = false := by simpa using hmay
            have HS2 : Hid (codeS Q at_ (is.take (k + 1)) = (M, x)) := Lib.hid (by rw [HS.out]; unfold pokeS; rw [if_neg hmay])
            have M4 : Hid (Has B w w3 (Star (Rf rf (codeS Q at_ (is.take (k + 1))).1) (Star (Sp a (codeS Q at_ (is.take (k + 1))).1) (Star (Cel g 46 #[va, vc, .int .i64 (codeS Q at_ (is.take (k + 1))).2, .int .i64 C.pc, .int .i64 C.tp, .int .i64 (C.r 0), .int .i64 (C.r 1), .int .i64 (C.r 2), .int .i64 (C.r 3), .int .i64 (C.r 4), .int .i64 (C.r 5), .int .i64 (C.r 6), .int .i64 (C.r 7), .int .i64 (C.r 8), .int .i64 (C.r 9), .int .i64 (C.r 10), .int .i64 (C.r 11), .int .i64 (C.r 12), .int .i64 (C.r 13), .int .i64 (C.r 14), .int .i64 (C.r 15)]) Emp)))) := Lib.hid (by rw [HS2.out]; exact M3.out)
            rw [hmf]
            clear M3
            go_wp2
            go_roundw
            case rel => exact ⟨k + 1, by omega, by go_num, M4⟩
            case measure => simp [intOf]; omega
        · have H1 : Hid (Has B w wr (Star (Sp a (codeS Q at_ is).1) (Star (Rf rf (codeS Q at_ is).1) Emp))) := Lib.hid (by
            have h := hM.out
            rw [List.take_of_length_le (by omega)] at h
            exact h.r3.right.swap)
          have g0 : wr.cell? ⟨g, 1, none⟩ = some (.slice A2 is.length c2) := by rw [hM.out.r3.cel.cell, ← HVC.out]; rfl
          clear hM
          go_wp2
          go_ret3
          exact ⟨a, rf, rfl, H1.out⟩
end Go.Proofs.Ytkpaeogjefjbfaa
