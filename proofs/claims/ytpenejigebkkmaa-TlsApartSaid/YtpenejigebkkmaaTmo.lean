/-
  Layer 17: an act by the program (does): the kind 1.
  Conditions: none. (My own text.)
-/
import Derived.Test.YtpenejigebkkmaaTmn
import Derived.Test.YtpenejigebkkmaaSdl
import Derived.Test.YtpenejigebkkmaaSdm
namespace Go.Proofs.Ytpenejigebkkmaa
open Go.RowKit Spm
set_option linter.unusedVariables false
set_option linter.unusedSimpArgs false

attribute [local irreducible] wpList
theorem own_back {B : Nat} {w wr : World} {Y : Res} [hY : Fr Y] {g : Nat} {b : List UInt8} (h : Has B w wr (Star (Cel g 5 (lentC b).toArray) Y)) (A : Option Addr) (c : Nat) (hb : b.length ≤ 140737488351232) (hs : SrcB wr A b) (hlt : b ≠ [] → ∀ p, A = some p → p.block < B) :
    Calls Try.prog 37 #[.slice (some ⟨g, 0, none⟩) b.length (b.length + 3), .slice A b.length c] wr fun e w' => e = .returned (.bool true) ∧ Has B w w' Y := by
  have hg : B ≤ g := by
    obtain ⟨F, ⟨F1, F2, h1, _, _, g1, _⟩, h2⟩ := h.own
    exact h2 g (g1 g h1.2)
  refine (h.call (X' := Emp) (R := fun e _ => e = .returned (.bool true)) fun F ⟨hc, hF⟩ => (back_any g A c b hb wr hc (fun hne => by
    obtain ⟨bb, off, hA, hcc⟩ := hs hne
    have := hlt hne _ hA
    exact ⟨bb, off, hA, by intro e; subst e; exact absurd hg (by have h9 : bb < B := this; omega), hcc⟩)).mono fun e w' ⟨e1, e2⟩ => ⟨e1, ⟨trivial, e2.mono fun k e => by subst e; exact hF⟩⟩).mono ?_
  rintro e w' ⟨h1, h2⟩
  exact ⟨h1, h2.right⟩
theorem lent_src {w : World} {g : Nat} {b : List UInt8} (h : Blk w g 5 (lentC b).toArray) : SrcB w (some ⟨g, 0, none⟩) b := fun _ => ⟨g, 0, rfl, fun j x hj => by
  rw [Nat.zero_add, h.cell]
  have hl : j < b.length := (List.getElem?_eq_some_iff.1 hj).1
  unfold lentC
  rw [List.getElem?_toArray, List.getElem?_append_left (by simpa using hl), List.getElem?_map, hj]
  rfl⟩
set_option maxRecDepth 100000 in
set_option maxHeartbeats 4000000 in
theorem tdoes_reg {B : Nat} {w wr : World} {Y : Res} [hY : Fr Y] {s a : Nat} {t : Ts} {L : List Rg} (h : Has B w wr (Tl s t (Star (Sp a L) Y))) (hi : TInv t) (x : TAct) (A : Option Addr) (c : Nat) (hd : x.d = 1) (hb : x.b.length ≤ 140737488351232) (hsb : ∀ w', Below B w w' → SrcB w' A x.b) (hlt : x.b ≠ [] → ∀ p, A = some p → p.block < B) : Calls Try.prog 25 #[.pointer (some ⟨s, 0, none⟩), .pointer (some ⟨a, 0, none⟩), .agg (actA x A c)] wr (DoesE s a t L Y B w x) := by
  obtain ⟨xd, xn, xth, xsz, xst, xb⟩ := x
  obtain rfl : xd = 1 := hd
  have HSB : Hid (∀ w', Below B w w' → SrcB w' A xb) := Lib.hid hsb
  have HLT : Hid (xb ≠ [] → ∀ p, A = some p → p.block < B) := Lib.hid hlt
  have HB : Hid (xb.length ≤ 140737488351232) := Lib.hid hb
  clear hsb hlt hb
  have HI := Lib.hid hi
  have hA : actA ⟨1, xn, xth, xsz, xst, xb⟩ A c = #[.int .i64 1, .int .i64 xn, .int .i64 xth, .int .i64 xsz, .bool xst, .slice A xb.length c] := rfl
  rw [hA]
  clear hA
  obtain ⟨M0, hM0⟩ : ∃ M0 : Hid (Has B w wr (Tl s t (Star (Sp a L) Y))), M0 = Lib.hid h := ⟨_, rfl⟩
  clear hM0 h hi
  have M1 := Lib.hid (M0.out.newcel 57 #[.int .i64 1, .int .i64 xn, .int .i64 xth, .int .i64 xsz, .bool xst, .slice A xb.length c])
  go_enter Try.func25, Try.ntmps25
  go_upto_region 1 with fail
  obtain ⟨W, hW⟩ : ∃ W, wr.alloc (.cells #[.int .i64 1, .int .i64 xn, .int .i64 xth, .int .i64 xsz, .bool xst, .slice A xb.length c] 57) = W := ⟨_, rfl⟩
  rw [hW] at M1 ⊢
  clear hW M0
  generalize wr.heap.size = q at M1 ⊢
  have q0 : W.cell? ⟨q, 0, none⟩ = some (.int .i64 1) := M1.out.cellat q 0 rfl
  have q5 : W.cell? ⟨q, 5, none⟩ = some (.slice A xb.length c) := M1.out.cellat q 5 rfl
  have C1 := Lib.hid (lent_any A c xb HB.out W (HSB.out W M1.out.bel))
  go_wp2_with fail
  refine (C1.out).mono ?_
  rintro e w1 ⟨rfl, hblk, hbel⟩
  have Na := Lib.hid (M1.out.add hbel (Y := Cel W.heap.size 5 (lentC xb).toArray) ⟨hblk, Nat.le_refl _⟩)
  clear hblk hbel C1 q0 q5 M1
  generalize W.heap.size = g at Na ⊢
  have q3 : w1.cell? ⟨q, 3, none⟩ = some (.int .i64 xsz) := Na.out.cellat q 3 rfl
  have q4 : w1.cell? ⟨q, 4, none⟩ = some (.bool xst) := Na.out.cellat q 4 rfl
  have NA := Lib.hid (Na.out.norm (Tl s t (Star (Sp a L) (Star (Cel g 5 (lentC xb).toArray) (Star (Cel q 57 #[.int .i64 1, .int .i64 xn, .int .i64 xth, .int .i64 xsz, .bool xst, .slice A xb.length c]) Y)))))
  have C2 := Lib.hid (treg_any NA.out HI.out.key (c := xb.length + 3) (lent_src (NA.out.getc g)) (fun _ p hp e => by
    cases hp
    have h1 : w1.heap[g]? = _ := NA.out.getc g
    have h2 := NA.out.getm t.gg
    have e' : g = t.gg := e
    rw [← e', h1] at h2
    cases h2) xsz xst)
  go_wp2_with fail
  refine (C2.out).mono ?_
  intro e w2 hE
  obtain ⟨n1, r1, t1, hP, rfl, m⟩ := RegE.plain hE
  have Nb := Lib.hid (m.norm (Star (Cel g 5 (lentC xb).toArray) (Star (Cel q 57 #[.int .i64 1, .int .i64 xn, .int .i64 xth, .int .i64 xsz, .bool xst, .slice A xb.length c]) (Tl s t1 (Star (Sp a L) Y)))))
  have HP := Lib.hid hP
  clear hE hP m C2 q3 q4 Na NA
  have q5 : w2.cell? ⟨q, 5, none⟩ = some (.slice A xb.length c) := Nb.out.cellat q 5 rfl
  have C3 := Lib.hid (own_back Nb.out A c HB.out (HSB.out w2 Nb.out.bel) HLT.out)
  go_wp2_with fail
  refine (C3.out).mono ?_
  rintro e w3 ⟨rfl, m⟩
  have MZ := Lib.hid (m.norm (Tl s t1 (Star (Sp a L) Y)))
  have HE : Hid (DoesE s a t L Y B w ⟨1, xn, xth, xsz, xst, xb⟩ (.returned (.tuple #[.int .i64 n1, .int .i64 r1])) w3) := Lib.hid ⟨_, _, t1, L, by unfold DoesT; rw [if_pos rfl]; exact ⟨HP.out, rfl⟩, rfl, MZ.out⟩
  clear m C3 Nb q5 MZ
  go_wp2_with fail
  go_ret2
  exact HE.out
end Go.Proofs.Ytpenejigebkkmaa
