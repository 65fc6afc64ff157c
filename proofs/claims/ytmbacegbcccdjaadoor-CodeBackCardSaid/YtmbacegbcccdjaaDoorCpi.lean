/-
  Layer 6: what an instruction does to a context and to the memory, plain.
  Conditions: none. (My own text.)
-/
import Derived.Test.YtmbacegbcccdjaaDoorCdb
import Derived.Test.YtmbacegbcccdjaaDoorCpd
import Derived.Test.YtmbacegbcccdjaaDoorCpf
namespace Go.Proofs.YtmbacegbcccdjaaDoor
open Go.RowKit Spm
set_option linter.unusedVariables false
set_option linter.unusedSimpArgs false

/-- Two numbers joined: what comes, and the fault. -/
def rkS (op x y : Int) : Int × Int :=
  if op = 3 then (wrap64 (x + y), 0) else
  if op = 4 then (wrap64 (x - y), 0) else
  if op = 5 then (wrap64 (x * y), 0) else
  if op = 7 then (if x < y then 1 else 0, 0) else
  if op = 8 then (if x = y then 1 else 0, 0) else
  if y = 0 then (0, 1) else (wrap64 (x.tdiv y), 0)
def rgI (cx : Ctx) (x : Int) : Int := cx.r x.toNat
def putI (cx : Ctx) (nx : Int) (a : Int) (v : Int) : Ctx := { cx with pc := nx, r := upd cx.r a.toNat v }
def actS (cx : Ctx) (L : List Rg) (i : Ins) (nx : Int) : Ctx × Evt × List Rg :=
  if i.op = 0 then ({ cx with pc := nx }, trapV 40, L) else
  if i.op = 1 then (putI cx nx i.a i.n, ev0, L) else
  if i.op = 2 then (putI cx nx i.a (rgI cx i.b), ev0, L) else
  if i.op = 9 then (ldC { cx with pc := nx } i.a.toNat (wordAt L (wrap64 (rgI cx i.b + i.n)) 1), ldE ev0 (wordAt L (wrap64 (rgI cx i.b + i.n)) 1), L) else
  if i.op = 10 then ({ cx with pc := nx }, stE (setS L (wrap64 (rgI cx i.b + i.n)) (bytesS (rgI cx i.a)) 2).2, (setS L (wrap64 (rgI cx i.b + i.n)) (bytesS (rgI cx i.a)) 2).1) else
  if i.op = 11 then (ldC { cx with pc := nx } i.a.toNat (wordAt L (wrap64 (nx + i.n)) 1), ldE ev0 (wordAt L (wrap64 (nx + i.n)) 1), L) else
  if i.op = 12 then (putI cx nx i.a (wrap64 (nx + i.n)), ev0, L) else
  if i.op = 13 then ({ cx with pc := wrap64 (nx + i.n) }, ev0, L) else
  if i.op = 14 then ({ cx with pc := if rgI cx i.a = 0 then wrap64 (nx + i.n) else nx }, ev0, L) else
  if i.op = 15 then (calC cx nx (wrap64 (nx + i.n)) (setS L (wrap64 (cx.r 15 - 8)) (bytesS nx) 2).2, stE (setS L (wrap64 (cx.r 15 - 8)) (bytesS nx) 2).2, (setS L (wrap64 (cx.r 15 - 8)) (bytesS nx) 2).1) else
  if i.op = 16 then (calC cx nx (rgI cx i.a) (setS L (wrap64 (cx.r 15 - 8)) (bytesS nx) 2).2, stE (setS L (wrap64 (cx.r 15 - 8)) (bytesS nx) 2).2, (setS L (wrap64 (cx.r 15 - 8)) (bytesS nx) 2).1) else
  if i.op = 17 then ({ cx with pc := rgI cx i.a }, ev0, L) else
  if i.op = 18 then (retC cx nx (wordAt L (cx.r 15) 1), stE (wordAt L (cx.r 15) 1).2, L) else
  if i.op = 19 then ({ cx with pc := nx }, ⟨2, rgI cx i.a, 0, 0, 0⟩, L) else
  if i.op = 20 then (putI cx nx i.a cx.tp, ev0, L) else
  if i.op = 21 then ({ cx with pc := nx }, ⟨3, 0, i.a, i.b, 0⟩, L) else
  if i.op = 22 then ({ cx with pc := nx }, ⟨4, i.n, 0, 0, 0⟩, L) else
  if (rkS i.op (rgI cx i.b) (rgI cx i.c)).2 = 0 then (putI cx nx i.a (rkS i.op (rgI cx i.b) (rgI cx i.c)).1, ev0, L) else ({ cx with pc := nx }, trapV (rkS i.op (rgI cx i.b) (rgI cx i.c)).2, L)

theorem may_rng {i : Ins} (h : mayS i = true) : (0 ≤ i.op ∧ i.op < 23) ∧ (0 ≤ i.a ∧ i.a < 16) ∧ (0 ≤ i.b ∧ i.b < 16) ∧ (0 ≤ i.c ∧ i.c < 16) ∧ (-2147483648 ≤ i.n ∧ i.n ≤ 2147483647) := by
  unfold mayS opOk at h
  simp only [Bool.and_eq_true, decide_eq_true_eq] at h
  obtain ⟨⟨⟨⟨h0, h1⟩, h2⟩, h3⟩, h4⟩ := h
  have key : ∀ k, okL i k = true → lowS k ≤ prt i k ∧ prt i k ≤ highS k := fun k hk => by
    unfold okL at hk
    have := low_high k
    split at hk
    · simpa using hk
    · have : prt i k = 0 := by simpa using hk
      omega
  have k1 := key 0 h1
  have k2 := key 1 h2
  have k3 := key 2 h3
  have k4 := key 3 h4
  simp [lowS, highS, prt] at k1 k2 k3 k4
  refine ⟨h0, ?_, ?_, ?_, ?_⟩ <;> omega

section
variable {B : Nat} {w wr w' : World} {g s : Nat} {cx : Ctx} {L : List Rg} {Y : Res}
end
end Go.Proofs.YtmbacegbcccdjaaDoor
