/-
  Layer 17: an act by the program (does): kinds 2, 3, 4, and no kind.
  Conditions: none. (My own text.)
-/
import Derived.Test.YtpenejigebkkmaaTmk
namespace Go.Proofs.Ytpenejigebkkmaa
open Go.RowKit Spm
set_option linter.unusedVariables false
set_option linter.unusedSimpArgs false

attribute [local irreducible] wpList
structure TAct where
  d : Int
  n : Int
  th : Int
  sz : Int
  st : Bool
  b : List UInt8
def actA (x : TAct) (A : Option Addr) (c : Nat) : Array Value := #[.int .i64 x.d, .int .i64 x.n, .int .i64 x.th, .int .i64 x.sz, .bool x.st, .slice A x.b.length c]
/-- What an act does: its answer, its error, the state and the space behind it. -/
def DoesT (x : TAct) (t : Ts) (L : List Rg) (n r : Int) (t' : Ts) (L' : List Rg) : Prop :=
  if x.d = 1 then RegP t x.b x.sz x.st n r t' ∧ L' = L
  else if x.d = 2 then n = 0 ∧ RelP t L x.n r t' L'
  else if x.d = 3 then StartP t L x.th n r t' L'
  else if x.d = 4 then n = 0 ∧ ExitP t L x.th r t' L'
  else if x.d = 5 ∨ x.d = 6 then ∃ L1, AddrP t L x.th x.n x.sz n r t' L1 ∧ L' = if r = 0 ∧ x.d = 6 ∧ 0 < x.b.length then (setS L1 n (x.b.take 1) 2).1 else L1
  else n = 0 ∧ r = 0 ∧ t' = t ∧ L' = L
def DoesE (s a : Nat) (t : Ts) (L : List Rg) (Y : Res) (B : Nat) (w : World) (x : TAct) (e : Ending) (w' : World) : Prop := ∃ n r t' L', DoesT x t L n r t' L' ∧ e = .returned (.tuple #[.int .i64 n, .int .i64 r]) ∧ Has B w w' (Tl s t' (Star (Sp a L') Y))
structure TInv (t : Ts) : Prop where
  good : TsGood t
  ok : MdsOk t.ml
  key : MdsKey t.ml
set_option maxRecDepth 100000 in
set_option maxHeartbeats 4000000 in
theorem tdoes_rel {B : Nat} {w wr : World} {Y : Res} [hY : Fr Y] {s a : Nat} {t : Ts} {L : List Rg} (h : Has B w wr (Tl s t (Star (Sp a L) Y))) (hi : TInv t) (x : TAct) (A : Option Addr) (c : Nat) (hd : x.d = 2) : Calls Try.prog 25 #[.pointer (some ⟨s, 0, none⟩), .pointer (some ⟨a, 0, none⟩), .agg (actA x A c)] wr (DoesE s a t L Y B w x) := by
  obtain ⟨xd, xn, xth, xsz, xst, xb⟩ := x
  obtain rfl : xd = 2 := hd
  have HI := Lib.hid hi
  have hA : actA ⟨2, xn, xth, xsz, xst, xb⟩ A c = #[.int .i64 (2 : Int), .int .i64 xn, .int .i64 xth, .int .i64 xsz, .bool xst, .slice A xb.length c] := rfl
  rw [hA]
  clear hA
  obtain ⟨M0, hM0⟩ : ∃ M0 : Hid (Has B w wr (Tl s t (Star (Sp a L) Y))), M0 = Lib.hid h := ⟨_, rfl⟩
  clear hM0 h hi
  have M1 := Lib.hid (M0.out.newcel 57 #[.int .i64 (2 : Int), .int .i64 xn, .int .i64 xth, .int .i64 xsz, .bool xst, .slice A xb.length c])
  go_enter Try.func25, Try.ntmps25
  go_upto_region 1 with fail
  obtain ⟨W, hW⟩ : ∃ W, wr.alloc (.cells #[.int .i64 (2 : Int), .int .i64 xn, .int .i64 xth, .int .i64 xsz, .bool xst, .slice A xb.length c] 57) = W := ⟨_, rfl⟩
  rw [hW] at M1 ⊢
  clear hW M0
  generalize wr.heap.size = q at M1 ⊢
  have q0 : W.cell? ⟨q, 0, none⟩ = some (.int .i64 (2 : Int)) := M1.out.cellat q 0 rfl
  have q1 : W.cell? ⟨q, 1, none⟩ = some (.int .i64 xn) := M1.out.cellat q 1 rfl
  have NA := Lib.hid (M1.out.norm (Tl s t (Star (Sp a L) (Star (Cel q 57 #[.int .i64 2, .int .i64 xn, .int .i64 xth, .int .i64 xsz, .bool xst, .slice A xb.length c]) Y))))
  have C := Lib.hid (trel_any NA.out HI.out.good xn)
  clear M1
  go_wp2_with fail
  refine (C.out).mono ?_
  intro e w1 hE
  obtain ⟨r1, t1, L1, hP, rfl, m⟩ := RelE.plain hE
  have MZ := Lib.hid (m.norm (Tl s t1 (Star (Sp a L1) Y)))
  have HE : Hid (DoesE s a t L Y B w ⟨2, xn, xth, xsz, xst, xb⟩ (.returned (.tuple #[.int .i64 0, .int .i64 r1])) w1) := Lib.hid ⟨_, _, t1, L1, by unfold DoesT; simp only [show (((2 : Int) = 1) = False) by decide, show (((2 : Int) = 2) = True) by decide, show (((2 : Int) = 3) = False) by decide, show (((2 : Int) = 4) = False) by decide, if_true, if_false]; exact ⟨by first | trivial | rfl, hP⟩, rfl, MZ.out⟩
  clear hE hP m MZ C
  go_wp2_with fail
  go_ret2
  exact HE.out
set_option maxRecDepth 100000 in
set_option maxHeartbeats 4000000 in
theorem tdoes_start {B : Nat} {w wr : World} {Y : Res} [hY : Fr Y] {s a : Nat} {t : Ts} {L : List Rg} (h : Has B w wr (Tl s t (Star (Sp a L) Y))) (hi : TInv t) (x : TAct) (A : Option Addr) (c : Nat) (hd : x.d = 3) : Calls Try.prog 25 #[.pointer (some ⟨s, 0, none⟩), .pointer (some ⟨a, 0, none⟩), .agg (actA x A c)] wr (DoesE s a t L Y B w x) := by
  obtain ⟨xd, xn, xth, xsz, xst, xb⟩ := x
  obtain rfl : xd = 3 := hd
  have HI := Lib.hid hi
  have hA : actA ⟨3, xn, xth, xsz, xst, xb⟩ A c = #[.int .i64 (3 : Int), .int .i64 xn, .int .i64 xth, .int .i64 xsz, .bool xst, .slice A xb.length c] := rfl
  rw [hA]
  clear hA
  obtain ⟨M0, hM0⟩ : ∃ M0 : Hid (Has B w wr (Tl s t (Star (Sp a L) Y))), M0 = Lib.hid h := ⟨_, rfl⟩
  clear hM0 h hi
  have M1 := Lib.hid (M0.out.newcel 57 #[.int .i64 (3 : Int), .int .i64 xn, .int .i64 xth, .int .i64 xsz, .bool xst, .slice A xb.length c])
  go_enter Try.func25, Try.ntmps25
  go_upto_region 1 with fail
  obtain ⟨W, hW⟩ : ∃ W, wr.alloc (.cells #[.int .i64 (3 : Int), .int .i64 xn, .int .i64 xth, .int .i64 xsz, .bool xst, .slice A xb.length c] 57) = W := ⟨_, rfl⟩
  rw [hW] at M1 ⊢
  clear hW M0
  generalize wr.heap.size = q at M1 ⊢
  have q0 : W.cell? ⟨q, 0, none⟩ = some (.int .i64 (3 : Int)) := M1.out.cellat q 0 rfl
  have q2 : W.cell? ⟨q, 2, none⟩ = some (.int .i64 xth) := M1.out.cellat q 2 rfl
  have NA := Lib.hid (M1.out.norm (Tl s t (Star (Sp a L) (Star (Cel q 57 #[.int .i64 3, .int .i64 xn, .int .i64 xth, .int .i64 xsz, .bool xst, .slice A xb.length c]) Y))))
  have C := Lib.hid (tstart_any NA.out HI.out.good HI.out.ok xth)
  clear M1
  go_wp2_with fail
  refine (C.out).mono ?_
  intro e w1 hE
  obtain ⟨n1, r1, t1, L1, hP, rfl, m⟩ := StartE.plain hE
  have MZ := Lib.hid (m.norm (Tl s t1 (Star (Sp a L1) Y)))
  have HE : Hid (DoesE s a t L Y B w ⟨3, xn, xth, xsz, xst, xb⟩ (.returned (.tuple #[.int .i64 n1, .int .i64 r1])) w1) := Lib.hid ⟨_, _, t1, L1, by unfold DoesT; simp only [show (((3 : Int) = 1) = False) by decide, show (((3 : Int) = 2) = False) by decide, show (((3 : Int) = 3) = True) by decide, show (((3 : Int) = 4) = False) by decide, if_true, if_false]; exact hP, rfl, MZ.out⟩
  clear hE hP m MZ C
  go_wp2_with fail
  go_ret2
  exact HE.out
set_option maxRecDepth 100000 in
set_option maxHeartbeats 4000000 in
theorem tdoes_exit {B : Nat} {w wr : World} {Y : Res} [hY : Fr Y] {s a : Nat} {t : Ts} {L : List Rg} (h : Has B w wr (Tl s t (Star (Sp a L) Y))) (hi : TInv t) (x : TAct) (A : Option Addr) (c : Nat) (hd : x.d = 4) : Calls Try.prog 25 #[.pointer (some ⟨s, 0, none⟩), .pointer (some ⟨a, 0, none⟩), .agg (actA x A c)] wr (DoesE s a t L Y B w x) := by
  obtain ⟨xd, xn, xth, xsz, xst, xb⟩ := x
  obtain rfl : xd = 4 := hd
  have HI := Lib.hid hi
  have hA : actA ⟨4, xn, xth, xsz, xst, xb⟩ A c = #[.int .i64 (4 : Int), .int .i64 xn, .int .i64 xth, .int .i64 xsz, .bool xst, .slice A xb.length c] := rfl
  rw [hA]
  clear hA
  obtain ⟨M0, hM0⟩ : ∃ M0 : Hid (Has B w wr (Tl s t (Star (Sp a L) Y))), M0 = Lib.hid h := ⟨_, rfl⟩
  clear hM0 h hi
  have M1 := Lib.hid (M0.out.newcel 57 #[.int .i64 (4 : Int), .int .i64 xn, .int .i64 xth, .int .i64 xsz, .bool xst, .slice A xb.length c])
  go_enter Try.func25, Try.ntmps25
  go_upto_region 1 with fail
  obtain ⟨W, hW⟩ : ∃ W, wr.alloc (.cells #[.int .i64 (4 : Int), .int .i64 xn, .int .i64 xth, .int .i64 xsz, .bool xst, .slice A xb.length c] 57) = W := ⟨_, rfl⟩
  rw [hW] at M1 ⊢
  clear hW M0
  generalize wr.heap.size = q at M1 ⊢
  have q0 : W.cell? ⟨q, 0, none⟩ = some (.int .i64 (4 : Int)) := M1.out.cellat q 0 rfl
  have q2 : W.cell? ⟨q, 2, none⟩ = some (.int .i64 xth) := M1.out.cellat q 2 rfl
  have NA := Lib.hid (M1.out.norm (Tl s t (Star (Sp a L) (Star (Cel q 57 #[.int .i64 4, .int .i64 xn, .int .i64 xth, .int .i64 xsz, .bool xst, .slice A xb.length c]) Y))))
  have C := Lib.hid (texit_any NA.out HI.out.good xth)
  clear M1
  go_wp2_with fail
  refine (C.out).mono ?_
  intro e w1 hE
  obtain ⟨r1, t1, L1, hP, rfl, m⟩ := ExitE.plain hE
  have MZ := Lib.hid (m.norm (Tl s t1 (Star (Sp a L1) Y)))
  have HE : Hid (DoesE s a t L Y B w ⟨4, xn, xth, xsz, xst, xb⟩ (.returned (.tuple #[.int .i64 0, .int .i64 r1])) w1) := Lib.hid ⟨_, _, t1, L1, by unfold DoesT; simp only [show (((4 : Int) = 1) = False) by decide, show (((4 : Int) = 2) = False) by decide, show (((4 : Int) = 3) = False) by decide, show (((4 : Int) = 4) = True) by decide, if_true, if_false]; exact ⟨by first | trivial | rfl, hP⟩, rfl, MZ.out⟩
  clear hE hP m MZ C
  go_wp2_with fail
  go_ret2
  exact HE.out
end Go.Proofs.Ytpenejigebkkmaa
