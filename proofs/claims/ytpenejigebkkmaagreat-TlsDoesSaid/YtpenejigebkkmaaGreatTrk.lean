/-
  Layer 17: an act by the document (model): what it is, and the kinds 2, 3, 4 and none.
  Conditions: none. (My own text.)
-/
import Derived.Test.YtpenejigebkkmaaGreatTre
import Derived.Test.YtpenejigebkkmaaGreatTrj
import Derived.Test.YtpenejigebkkmaaGreatTgb
namespace Go.Proofs.YtpenejigebkkmaaGreat
open Go.RowKit Spm
set_option linter.unusedVariables false
set_option linter.unusedSimpArgs false
attribute [local irreducible] wpList

def ModT (x : TAct) (d : Dt) (L : List Rg) (n r : Int) (d' : Dt) (L' : List Rg) : Prop :=
  if x.d = 1 then DRegP d x.b x.sz x.st n r d' ∧ L' = L
  else if x.d = 2 then n = 0 ∧ DRelP d L x.n r d' L'
  else if x.d = 3 then DStartP d L x.th n r d' L'
  else if x.d = 4 then n = 0 ∧ DExitP d L x.th r d' L'
  else if x.d = 5 ∨ x.d = 6 then ∃ L1, DAddrP d L x.th x.n x.sz n r d' L1 ∧ L' = if r = 0 ∧ x.d = 6 ∧ 0 < x.b.length then (setS L1 n (x.b.take 1) 2).1 else L1
  else n = 0 ∧ r = 0 ∧ d' = d ∧ L' = L
def ModE (r q : Nat) (d : Dt) (L : List Rg) (Y : Res) (B : Nat) (w : World) (x : TAct) (e : Ending) (w' : World) : Prop := ∃ n k d' L', ModT x d L n k d' L' ∧ e = .returned (.tuple #[.int .i64 n, .int .i64 k]) ∧ Has B w w' (Dl r d' (Star (Rf q L') Y))
theorem daddr_I64 {d d' : Dt} {L L' : List Rg} {id n off p r : Int} (h : DAddrP d L id n off p r d' L') : I64 p := by
  have z : I64 0 := by unfold I64; omega
  unfold DAddrP at h
  split at h
  · rw [h.1]; exact z
  · split at h
    · rw [h.1]; exact z
    · split at h
      · rw [h.1]; exact z
      · split at h
        · rw [h.1]; exact wrap64_I64' _
        · split at h
          · rw [h.1]; exact wrap64_I64' _
          · split at h
            · rw [h.1]; exact wrap64_I64' _
            · rw [h.1]; exact z
theorem away_low {B : Nat} {wr : World} {A : Option Addr} {b : List UInt8} {Y : Res} (hs : SrcB wr A b) (hl : b ≠ [] → ∀ p, A = some p → p.block < B) (hB : B ≤ wr.heap.size) : AwayB A (b.take 1) B wr Y := by
  intro F G hY hd hF hn
  have hb : b ≠ [] := fun e => hn (by rw [e]; rfl)
  obtain ⟨bb, off, hA, hc⟩ := hs hb
  have h1 : bb < B := hl hb _ hA
  refine ⟨bb, off, hA, fun hf => by have := hF bb hf; omega, by omega, fun j x hj => hc j x ?_⟩
  rw [List.getElem?_take] at hj
  split at hj
  · exact hj
  · cases hj
/-- The document's state is as a script leaves it. -/
structure DInv (d : Dt) : Prop where
  a0 : 0 ≤ d.ar
  a1 : d.ar ≤ 4096
  gll : d.gl.length ≤ 65
  mll : d.ml.length ≤ 64
  tll : d.tl.length ≤ 16
  bll : ∀ y ∈ d.tl, y.bl.length ≤ 1000
  tml : ∀ x ∈ d.ml, x.tm.length ≤ 4096
set_option maxRecDepth 100000 in
set_option maxHeartbeats 4000000 in
theorem model_rel {B : Nat} {w wr : World} {Y : Res} [hY : Fr Y] {r q : Nat} {d : Dt} {L : List Rg} (h : Has B w wr (Dl r d (Star (Rf q L) Y))) (hi : DInv d) (x : TAct) (A : Option Addr) (c : Nat) (hd : x.d = 2) : Calls Tryz.prog 13 #[.pointer (some ⟨r, 0, none⟩), .pointer (some ⟨q, 0, none⟩), .agg (actA x A c)] wr (ModE r q d L Y B w x) := by
  obtain ⟨xd, xn, xth, xsz, xst, xb⟩ := x
  obtain rfl : xd = 2 := hd
  have HI := Lib.hid hi
  have hA : actA ⟨2, xn, xth, xsz, xst, xb⟩ A c = #[.int .i64 2, .int .i64 xn, .int .i64 xth, .int .i64 xsz, .bool xst, .slice A xb.length c] := rfl
  rw [hA]
  clear hA
  obtain ⟨M0, hM0⟩ : ∃ M0 : Hid (Has B w wr (Dl r d (Star (Rf q L) Y))), M0 = Lib.hid h := ⟨_, rfl⟩
  clear hM0 h hi
  have M1 := Lib.hid (M0.out.newcel 40 #[.int .i64 2, .int .i64 xn, .int .i64 xth, .int .i64 xsz, .bool xst, .slice A xb.length c])
  go_enter Tryz.func13, Tryz.ntmps13
  go_upto_region 1 with fail
  obtain ⟨W, hW⟩ : ∃ W, wr.alloc (.cells #[.int .i64 2, .int .i64 xn, .int .i64 xth, .int .i64 xsz, .bool xst, .slice A xb.length c] 40) = W := ⟨_, rfl⟩
  rw [hW] at M1 ⊢
  clear hW M0
  generalize wr.heap.size = x5 at M1 ⊢
  have q0 : W.cell? ⟨x5, 0, none⟩ = some (.int .i64 2) := M1.out.cellat x5 0 rfl
  have q1 : W.cell? ⟨x5, 1, none⟩ = some (.int .i64 xn) := M1.out.cellat x5 1 rfl
  have M2 := Lib.hid (M1.out.right)
  have C1 := Lib.hid (rrel_any M2.out (by have := HI.out.mll; omega) (by have := HI.out.tll; omega) HI.out.bll xn)
  clear M1
  go_wp2_with fail
  refine (C1.out).mono ?_
  rintro e w2 ⟨k, d', L', hP, rfl, m⟩
  have HE : Hid (ModE r q d L Y B w ⟨2, xn, xth, xsz, xst, xb⟩ (.returned (.tuple #[.int .i64 0, .int .i64 k])) w2) := Lib.hid ⟨0, k, d', L', by unfold ModT; rw [if_neg (by simp), if_pos rfl]; exact ⟨rfl, hP⟩, rfl, m⟩
  clear hP m C1 M2 q0 q1
  go_wp2_with fail
  go_ret2
  exact HE.out
set_option maxRecDepth 100000 in
set_option maxHeartbeats 4000000 in
theorem model_start {B : Nat} {w wr : World} {Y : Res} [hY : Fr Y] {r q : Nat} {d : Dt} {L : List Rg} (h : Has B w wr (Dl r d (Star (Rf q L) Y))) (hi : DInv d) (x : TAct) (A : Option Addr) (c : Nat) (hd : x.d = 3) : Calls Tryz.prog 13 #[.pointer (some ⟨r, 0, none⟩), .pointer (some ⟨q, 0, none⟩), .agg (actA x A c)] wr (ModE r q d L Y B w x) := by
  obtain ⟨xd, xn, xth, xsz, xst, xb⟩ := x
  obtain rfl : xd = 3 := hd
  have HI := Lib.hid hi
  have hA : actA ⟨3, xn, xth, xsz, xst, xb⟩ A c = #[.int .i64 3, .int .i64 xn, .int .i64 xth, .int .i64 xsz, .bool xst, .slice A xb.length c] := rfl
  rw [hA]
  clear hA
  obtain ⟨M0, hM0⟩ : ∃ M0 : Hid (Has B w wr (Dl r d (Star (Rf q L) Y))), M0 = Lib.hid h := ⟨_, rfl⟩
  clear hM0 h hi
  have M1 := Lib.hid (M0.out.newcel 40 #[.int .i64 3, .int .i64 xn, .int .i64 xth, .int .i64 xsz, .bool xst, .slice A xb.length c])
  go_enter Tryz.func13, Tryz.ntmps13
  go_upto_region 1 with fail
  obtain ⟨W, hW⟩ : ∃ W, wr.alloc (.cells #[.int .i64 3, .int .i64 xn, .int .i64 xth, .int .i64 xsz, .bool xst, .slice A xb.length c] 40) = W := ⟨_, rfl⟩
  rw [hW] at M1 ⊢
  clear hW M0
  generalize wr.heap.size = x5 at M1 ⊢
  have q0 : W.cell? ⟨x5, 0, none⟩ = some (.int .i64 3) := M1.out.cellat x5 0 rfl
  have q1 : W.cell? ⟨x5, 2, none⟩ = some (.int .i64 xth) := M1.out.cellat x5 2 rfl
  have M2 := Lib.hid (M1.out.right)
  have C1 := Lib.hid (rstart_any M2.out (by have := HI.out.mll; omega) (by have := HI.out.tll; omega) HI.out.a0 HI.out.a1 (fun x hx => by have := HI.out.tml x hx; omega) xth)
  clear M1
  go_wp2_with fail
  refine (C1.out).mono ?_
  rintro e w2 ⟨n, k, d', L', hP, rfl, m⟩
  have HE : Hid (ModE r q d L Y B w ⟨3, xn, xth, xsz, xst, xb⟩ (.returned (.tuple #[.int .i64 n, .int .i64 k])) w2) := Lib.hid ⟨n, k, d', L', by unfold ModT; rw [if_neg (by simp), if_neg (by simp), if_pos rfl]; exact hP, rfl, m⟩
  clear hP m C1 M2 q0 q1
  go_wp2_with fail
  go_ret2
  exact HE.out
set_option maxRecDepth 100000 in
set_option maxHeartbeats 4000000 in
theorem model_exit {B : Nat} {w wr : World} {Y : Res} [hY : Fr Y] {r q : Nat} {d : Dt} {L : List Rg} (h : Has B w wr (Dl r d (Star (Rf q L) Y))) (hi : DInv d) (x : TAct) (A : Option Addr) (c : Nat) (hd : x.d = 4) : Calls Tryz.prog 13 #[.pointer (some ⟨r, 0, none⟩), .pointer (some ⟨q, 0, none⟩), .agg (actA x A c)] wr (ModE r q d L Y B w x) := by
  obtain ⟨xd, xn, xth, xsz, xst, xb⟩ := x
  obtain rfl : xd = 4 := hd
  have HI := Lib.hid hi
  have hA : actA ⟨4, xn, xth, xsz, xst, xb⟩ A c = #[.int .i64 4, .int .i64 xn, .int .i64 xth, .int .i64 xsz, .bool xst, .slice A xb.length c] := rfl
  rw [hA]
  clear hA
  obtain ⟨M0, hM0⟩ : ∃ M0 : Hid (Has B w wr (Dl r d (Star (Rf q L) Y))), M0 = Lib.hid h := ⟨_, rfl⟩
  clear hM0 h hi
  have M1 := Lib.hid (M0.out.newcel 40 #[.int .i64 4, .int .i64 xn, .int .i64 xth, .int .i64 xsz, .bool xst, .slice A xb.length c])
  go_enter Tryz.func13, Tryz.ntmps13
  go_upto_region 1 with fail
  obtain ⟨W, hW⟩ : ∃ W, wr.alloc (.cells #[.int .i64 4, .int .i64 xn, .int .i64 xth, .int .i64 xsz, .bool xst, .slice A xb.length c] 40) = W := ⟨_, rfl⟩
  rw [hW] at M1 ⊢
  clear hW M0
  generalize wr.heap.size = x5 at M1 ⊢
  have q0 : W.cell? ⟨x5, 0, none⟩ = some (.int .i64 4) := M1.out.cellat x5 0 rfl
  have q1 : W.cell? ⟨x5, 2, none⟩ = some (.int .i64 xth) := M1.out.cellat x5 2 rfl
  have M2 := Lib.hid (M1.out.right)
  have C1 := Lib.hid (rexit_any M2.out (by have := HI.out.tll; omega) HI.out.bll xth)
  clear M1
  go_wp2_with fail
  refine (C1.out).mono ?_
  rintro e w2 ⟨k, d', L', hP, rfl, m⟩
  have HE : Hid (ModE r q d L Y B w ⟨4, xn, xth, xsz, xst, xb⟩ (.returned (.tuple #[.int .i64 0, .int .i64 k])) w2) := Lib.hid ⟨0, k, d', L', by unfold ModT; rw [if_neg (by simp), if_neg (by simp), if_neg (by simp), if_pos rfl]; exact ⟨rfl, hP⟩, rfl, m⟩
  clear hP m C1 M2 q0 q1
  go_wp2_with fail
  go_ret2
  exact HE.out
set_option maxRecDepth 100000 in
set_option maxHeartbeats 4000000 in
theorem model_reg {B : Nat} {w wr : World} {Y : Res} [hY : Fr Y] {r q : Nat} {d : Dt} {L : List Rg} (h : Has B w wr (Dl r d (Star (Rf q L) Y))) (hi : DInv d) (x : TAct) (A : Option Addr) (c : Nat) (hd : x.d = 1) (hb : x.b.length ≤ 140737488351232) (hsb : ∀ w', Below B w w' → SrcB w' A x.b) : Calls Tryz.prog 13 #[.pointer (some ⟨r, 0, none⟩), .pointer (some ⟨q, 0, none⟩), .agg (actA x A c)] wr (ModE r q d L Y B w x) := by
  obtain ⟨xd, xn, xth, xsz, xst, xb⟩ := x
  obtain rfl : xd = 1 := hd
  have HSB : Hid (∀ w', Below B w w' → SrcB w' A xb) := Lib.hid hsb
  have HB : Hid (xb.length ≤ 140737488351232) := Lib.hid hb
  clear hsb hb
  have HI := Lib.hid hi
  have hA : actA ⟨1, xn, xth, xsz, xst, xb⟩ A c = #[.int .i64 1, .int .i64 xn, .int .i64 xth, .int .i64 xsz, .bool xst, .slice A xb.length c] := rfl
  rw [hA]
  clear hA
  obtain ⟨M0, hM0⟩ : ∃ M0 : Hid (Has B w wr (Dl r d (Star (Rf q L) Y))), M0 = Lib.hid h := ⟨_, rfl⟩
  clear hM0 h hi
  have M1 := Lib.hid (M0.out.newcel 40 #[.int .i64 1, .int .i64 xn, .int .i64 xth, .int .i64 xsz, .bool xst, .slice A xb.length c])
  go_enter Tryz.func13, Tryz.ntmps13
  go_upto_region 1 with fail
  obtain ⟨W, hW⟩ : ∃ W, wr.alloc (.cells #[.int .i64 1, .int .i64 xn, .int .i64 xth, .int .i64 xsz, .bool xst, .slice A xb.length c] 40) = W := ⟨_, rfl⟩
  rw [hW] at M1 ⊢
  clear hW M0
  generalize wr.heap.size = x5 at M1 ⊢
  have q0 : W.cell? ⟨x5, 0, none⟩ = some (.int .i64 1) := M1.out.cellat x5 0 rfl
  have q3 : W.cell? ⟨x5, 3, none⟩ = some (.int .i64 xsz) := M1.out.cellat x5 3 rfl
  have q4 : W.cell? ⟨x5, 4, none⟩ = some (.bool xst) := M1.out.cellat x5 4 rfl
  have q5 : W.cell? ⟨x5, 5, none⟩ = some (.slice A xb.length c) := M1.out.cellat x5 5 rfl
  have kb := conv_src (c := c) (HSB.out W M1.out.bel)
  have M2 := Lib.hid (M1.out.right)
  have C1 := Lib.hid (rreg_any M2.out HI.out.a0 HI.out.a1 HI.out.gll HI.out.mll xb (by have := HB.out; omega) xsz xst)
  clear M1
  go_wp2_with fail
  refine (C1.out).mono ?_
  rintro e w2 ⟨n, k, d', hP, rfl, m⟩
  have HE : Hid (ModE r q d L Y B w ⟨1, xn, xth, xsz, xst, xb⟩ (.returned (.tuple #[.int .i64 n, .int .i64 k])) w2) := Lib.hid ⟨n, k, d', L, by unfold ModT; rw [if_pos rfl]; exact ⟨hP, rfl⟩, rfl, m⟩
  clear hP m C1 M2 q0 q3 q4 q5 kb
  go_wp2_with fail
  go_ret2
  exact HE.out
set_option maxRecDepth 100000 in
set_option maxHeartbeats 4000000 in
theorem model_addr5 {B : Nat} {w wr : World} {Y : Res} [hY : Fr Y] {r q : Nat} {d : Dt} {L : List Rg} (h : Has B w wr (Dl r d (Star (Rf q L) Y))) (hi : DInv d) (x : TAct) (A : Option Addr) (c : Nat) (hd : x.d = 5) : Calls Tryz.prog 13 #[.pointer (some ⟨r, 0, none⟩), .pointer (some ⟨q, 0, none⟩), .agg (actA x A c)] wr (ModE r q d L Y B w x) := by
  obtain ⟨xd, xn, xth, xsz, xst, xb⟩ := x
  obtain rfl : xd = 5 := hd
  have HI := Lib.hid hi
  have hA : actA ⟨5, xn, xth, xsz, xst, xb⟩ A c = #[.int .i64 5, .int .i64 xn, .int .i64 xth, .int .i64 xsz, .bool xst, .slice A xb.length c] := rfl
  rw [hA]
  clear hA
  obtain ⟨M0, hM0⟩ : ∃ M0 : Hid (Has B w wr (Dl r d (Star (Rf q L) Y))), M0 = Lib.hid h := ⟨_, rfl⟩
  clear hM0 h hi
  have M1 := Lib.hid (M0.out.newcel 40 #[.int .i64 5, .int .i64 xn, .int .i64 xth, .int .i64 xsz, .bool xst, .slice A xb.length c])
  go_enter Tryz.func13, Tryz.ntmps13
  go_upto_region 1 with fail
  obtain ⟨W, hW⟩ : ∃ W, wr.alloc (.cells #[.int .i64 5, .int .i64 xn, .int .i64 xth, .int .i64 xsz, .bool xst, .slice A xb.length c] 40) = W := ⟨_, rfl⟩
  rw [hW] at M1 ⊢
  clear hW M0
  generalize wr.heap.size = x5 at M1 ⊢
  have q0 : W.cell? ⟨x5, 0, none⟩ = some (.int .i64 5) := M1.out.cellat x5 0 rfl
  have q1 : W.cell? ⟨x5, 1, none⟩ = some (.int .i64 xn) := M1.out.cellat x5 1 rfl
  have q2 : W.cell? ⟨x5, 2, none⟩ = some (.int .i64 xth) := M1.out.cellat x5 2 rfl
  have q3 : W.cell? ⟨x5, 3, none⟩ = some (.int .i64 xsz) := M1.out.cellat x5 3 rfl
  have M2 := Lib.hid (M1.out.norm (Dl r d (Star (Rf q L) (Star (Cel x5 40 #[.int .i64 5, .int .i64 xn, .int .i64 xth, .int .i64 xsz, .bool xst, .slice A xb.length c]) Y))))
  have C1 := Lib.hid (raddr_any M2.out HI.out.bll (fun x hx => by have := HI.out.tml x hx; omega) xth xn xsz)
  clear M1
  go_wp2_with fail
  refine (C1.out).mono ?_
  rintro e w2 ⟨n, k, d', L', hP, rfl, m⟩
  have q0' : w2.cell? ⟨x5, 0, none⟩ = some (.int .i64 5) := m.cellat x5 0 rfl
  have HE : Hid (ModE r q d L Y B w ⟨5, xn, xth, xsz, xst, xb⟩ (.returned (.tuple #[.int .i64 n, .int .i64 k])) w2) := Lib.hid ⟨n, k, d', L', by unfold ModT; rw [if_neg (by simp), if_neg (by simp), if_neg (by simp), if_neg (by simp), if_pos (.inl rfl)]; exact ⟨L', hP, by rw [if_neg (by simp)]⟩, rfl, m.norm (Star (Cel r 33 d'.arr) (Star (Mods d'.vm d'.ml) (Star (Gens d'.vg d'.gl) (Star (Thrs d'.vt d'.tl) (Star (All dtR d'.tl) (Star (Rf q L') Y))))))⟩
  clear hP m C1 M2 q0 q1 q2 q3
  by_cases hk : k = 0
  · subst hk
    go_wp2_with fail
    go_ret2
    exact HE.out
  · go_wp2_with fail
    go_ret2
    exact HE.out
set_option maxRecDepth 100000 in
set_option maxHeartbeats 4000000 in
theorem model_addr6 {B : Nat} {w wr : World} {Y : Res} [hY : Fr Y] {r q : Nat} {d : Dt} {L : List Rg} (h : Has B w wr (Dl r d (Star (Rf q L) Y))) (hi : DInv d) (x : TAct) (A : Option Addr) (c : Nat) (hd : x.d = 6) (hb : x.b.length ≤ 140737488351232) (hcap : x.b.length ≤ c) (hsb : ∀ w', Below B w w' → SrcB w' A x.b) (hlt : x.b ≠ [] → ∀ p, A = some p → p.block < B) : Calls Tryz.prog 13 #[.pointer (some ⟨r, 0, none⟩), .pointer (some ⟨q, 0, none⟩), .agg (actA x A c)] wr (ModE r q d L Y B w x) := by
  obtain ⟨xd, xn, xth, xsz, xst, xb⟩ := x
  obtain rfl : xd = 6 := hd
  have HSB : Hid (∀ w', Below B w w' → SrcB w' A xb) := Lib.hid hsb
  have HLT : Hid (xb ≠ [] → ∀ p, A = some p → p.block < B) := Lib.hid hlt
  have hcap' : xb.length ≤ c := hcap
  have hb' : xb.length ≤ 140737488351232 := hb
  clear hsb hlt hcap hb
  have HI := Lib.hid hi
  have hA : actA ⟨6, xn, xth, xsz, xst, xb⟩ A c = #[.int .i64 6, .int .i64 xn, .int .i64 xth, .int .i64 xsz, .bool xst, .slice A xb.length c] := rfl
  rw [hA]
  clear hA
  obtain ⟨M0, hM0⟩ : ∃ M0 : Hid (Has B w wr (Dl r d (Star (Rf q L) Y))), M0 = Lib.hid h := ⟨_, rfl⟩
  clear hM0 h hi
  have M1 := Lib.hid (M0.out.newcel 40 #[.int .i64 6, .int .i64 xn, .int .i64 xth, .int .i64 xsz, .bool xst, .slice A xb.length c])
  go_enter Tryz.func13, Tryz.ntmps13
  go_upto_region 1 with fail
  obtain ⟨W, hW⟩ : ∃ W, wr.alloc (.cells #[.int .i64 6, .int .i64 xn, .int .i64 xth, .int .i64 xsz, .bool xst, .slice A xb.length c] 40) = W := ⟨_, rfl⟩
  rw [hW] at M1 ⊢
  clear hW M0
  generalize wr.heap.size = x5 at M1 ⊢
  have q0 : W.cell? ⟨x5, 0, none⟩ = some (.int .i64 6) := M1.out.cellat x5 0 rfl
  have q1 : W.cell? ⟨x5, 1, none⟩ = some (.int .i64 xn) := M1.out.cellat x5 1 rfl
  have q2 : W.cell? ⟨x5, 2, none⟩ = some (.int .i64 xth) := M1.out.cellat x5 2 rfl
  have q3 : W.cell? ⟨x5, 3, none⟩ = some (.int .i64 xsz) := M1.out.cellat x5 3 rfl
  have M2 := Lib.hid (M1.out.norm (Dl r d (Star (Rf q L) (Star (Cel x5 40 #[.int .i64 6, .int .i64 xn, .int .i64 xth, .int .i64 xsz, .bool xst, .slice A xb.length c]) Y))))
  have C1 := Lib.hid (raddr_any M2.out HI.out.bll (fun x hx => by have := HI.out.tml x hx; omega) xth xn xsz)
  clear M1
  go_wp2_with fail
  refine (C1.out).mono ?_
  rintro e w2 ⟨n, k, d', L', hP, rfl, m⟩
  have q0' : w2.cell? ⟨x5, 0, none⟩ = some (.int .i64 6) := m.cellat x5 0 rfl
  have q5' : w2.cell? ⟨x5, 5, none⟩ = some (.slice A xb.length c) := m.cellat x5 5 rfl
  have MZ := Lib.hid (m.norm (Dl r d' (Star (Rf q L') Y)))
  have HP := Lib.hid hP
  clear hP m C1 M2 q0 q1 q2 q3
  by_cases hk : k = 0
  · subst hk
    cases xb with
    | nil =>
      have HE : Hid (ModE r q d L Y B w ⟨6, xn, xth, xsz, xst, []⟩ (.returned (.tuple #[.int .i64 n, .int .i64 0])) w2) := Lib.hid ⟨n, 0, d', L', by unfold ModT; rw [if_neg (by simp), if_neg (by simp), if_neg (by simp), if_neg (by simp), if_pos (.inr rfl)]; exact ⟨L', HP.out, by rw [if_neg (by simp)]⟩, rfl, MZ.out⟩
      clear MZ
      go_wp2_with fail
      go_ret2
      exact HE.out
    | cons x0 xb =>
      have C3 := Lib.hid (own_rset (MZ.out.pick (Rf q L')) n (daddr_I64 HP.out) A c ((x0 :: xb).take 1) (by simp) 2 (.inr (.inr (.inl rfl))) (away_low (HSB.out _ MZ.out.bel) HLT.out MZ.out.le))
      have hl1 : (1 : Int) ≤ (c : Int) := by simp only [List.length_cons] at hcap'; omega
      have HP1 : Hid (ModT ⟨6, xn, xth, xsz, xst, x0 :: xb⟩ d L n 0 d' (setS L' n ((x0 :: xb).take 1) 2).1) := Lib.hid (by unfold ModT; rw [if_neg (by simp), if_neg (by simp), if_neg (by simp), if_neg (by simp), if_pos (.inr rfl)]; exact ⟨L', HP.out, by rw [if_pos ⟨rfl, rfl, by simp⟩]⟩)
      clear MZ HP HSB HLT
      go_wp2_with fail
      refine (C3.out).mono ?_
      rintro e w3 ⟨rfl, m⟩
      have HE : Hid (ModE r q d L Y B w ⟨6, xn, xth, xsz, xst, x0 :: xb⟩ (.returned (.tuple #[.int .i64 n, .int .i64 0])) w3) := Lib.hid ⟨n, 0, d', _, HP1.out, rfl, m.norm (Star (Cel r 33 d'.arr) (Star (Mods d'.vm d'.ml) (Star (Gens d'.vg d'.gl) (Star (Thrs d'.vt d'.tl) (Star (All dtR d'.tl) (Star (Rf q (setS L' n ((x0 :: xb).take 1) 2).1) Y))))))⟩
      clear m C3
      go_wp2_with fail
      go_ret2
      exact HE.out
  · have HE : Hid (ModE r q d L Y B w ⟨6, xn, xth, xsz, xst, xb⟩ (.returned (.tuple #[.int .i64 n, .int .i64 k])) w2) := Lib.hid ⟨n, k, d', L', by unfold ModT; rw [if_neg (by simp), if_neg (by simp), if_neg (by simp), if_neg (by simp), if_pos (.inr rfl)]; exact ⟨L', HP.out, by rw [if_neg (fun h => hk h.1)]⟩, rfl, MZ.out⟩
    clear MZ
    go_wp2_with fail
    go_ret2
    exact HE.out
set_option maxRecDepth 100000 in
set_option maxHeartbeats 4000000 in
theorem model_none {B : Nat} {w wr : World} {Y : Res} [hY : Fr Y] {r q : Nat} {d : Dt} {L : List Rg} (h : Has B w wr (Dl r d (Star (Rf q L) Y))) (x : TAct) (A : Option Addr) (c : Nat) (h1 : ¬ x.d = 1) (h2 : ¬ x.d = 2) (h3 : ¬ x.d = 3) (h4 : ¬ x.d = 4) (h5 : ¬ x.d = 5) (h6 : ¬ x.d = 6) : Calls Tryz.prog 13 #[.pointer (some ⟨r, 0, none⟩), .pointer (some ⟨q, 0, none⟩), .agg (actA x A c)] wr (ModE r q d L Y B w x) := by
  obtain ⟨xd, xn, xth, xsz, xst, xb⟩ := x
  simp only at h1 h2 h3 h4 h5 h6
  have hA : actA ⟨xd, xn, xth, xsz, xst, xb⟩ A c = #[.int .i64 xd, .int .i64 xn, .int .i64 xth, .int .i64 xsz, .bool xst, .slice A xb.length c] := rfl
  rw [hA]
  clear hA
  have M1 := Lib.hid (h.newcel 40 #[.int .i64 xd, .int .i64 xn, .int .i64 xth, .int .i64 xsz, .bool xst, .slice A xb.length c])
  have HE : Hid (ModE r q d L Y B w ⟨xd, xn, xth, xsz, xst, xb⟩ (.returned (.tuple #[.int .i64 0, .int .i64 0])) (wr.alloc (.cells #[.int .i64 xd, .int .i64 xn, .int .i64 xth, .int .i64 xsz, .bool xst, .slice A xb.length c] 40))) := Lib.hid ⟨0, 0, d, L, by unfold ModT; rw [if_neg h1, if_neg h2, if_neg h3, if_neg h4, if_neg (by intro hh; rcases hh with hh | hh; exact h5 hh; exact h6 hh)]; exact ⟨rfl, rfl, rfl, rfl⟩, rfl, M1.out.right⟩
  have q0 : (wr.alloc (.cells #[.int .i64 xd, .int .i64 xn, .int .i64 xth, .int .i64 xsz, .bool xst, .slice A xb.length c] 40)).cell? ⟨wr.heap.size, 0, none⟩ = some (.int .i64 xd) := M1.out.cellat wr.heap.size 0 rfl
  clear h M1
  go_enter Tryz.func13, Tryz.ntmps13
  go_wp2
  go_ret2
  exact HE.out
theorem model_any {B : Nat} {w wr : World} {Y : Res} [hY : Fr Y] {r q : Nat} {d : Dt} {L : List Rg} (h : Has B w wr (Dl r d (Star (Rf q L) Y))) (hi : DInv d) (x : TAct) (A : Option Addr) (c : Nat) (hb : x.b.length ≤ 140737488351232) (hcap : x.b.length ≤ c) (hsb : ∀ w', Below B w w' → SrcB w' A x.b) (hlt : x.b ≠ [] → ∀ p, A = some p → p.block < B) : Calls Tryz.prog 13 #[.pointer (some ⟨r, 0, none⟩), .pointer (some ⟨q, 0, none⟩), .agg (actA x A c)] wr (ModE r q d L Y B w x) := by
  by_cases h1 : x.d = 1
  · exact model_reg h hi x A c h1 hb hsb
  by_cases h2 : x.d = 2
  · exact model_rel h hi x A c h2
  by_cases h3 : x.d = 3
  · exact model_start h hi x A c h3
  by_cases h4 : x.d = 4
  · exact model_exit h hi x A c h4
  by_cases h5 : x.d = 5
  · exact model_addr5 h hi x A c h5
  by_cases h6 : x.d = 6
  · exact model_addr6 h hi x A c h6 hb hcap hsb hlt
  exact model_none h x A c h1 h2 h3 h4 h5 h6
end Go.Proofs.YtpenejigebkkmaaGreat
