/-
  Layer 16: what one and Apply of the document do.
  Conditions: none. (My own text.)
-/
import Derived.Test.YtpononkgeeahdaaRelb
import Derived.Test.YtpononkgeeahdaaBo
import Derived.StillTailTactics
namespace Go.Proofs.Ytpononkgeeahdaa
open Go.RowKit Spm
set_option linter.unusedVariables false
set_option linter.unusedSimpArgs false

theorem RSpL.lt {a : Nat} {F : Nat → Prop} {L : List Rg} {w : World} (h : RSpL w a F L) : RSpL w a (fun k => F k ∧ k < w.heap.size) L := by
  obtain ⟨M, h1, h2⟩ := h
  exact ⟨M, h1.mono fun k hk hl => ⟨hk, hl⟩, h2⟩
theorem SetsL.wide {a : Nat} {F : Nat → Prop} {r : List Rg × Int} {w w' : World} {e : Ending} (h : SetsL a (fun k => F k ∧ k < w.heap.size) r w e w') : SetsL a F r w e w' := by
  obtain ⟨h1, ⟨M, h2, h3⟩, h4⟩ := h
  exact ⟨h1, ⟨M, h2.mono fun k hk _ => by rcases hk with hk | hk; exact .inl hk.1; exact .inr hk, h3⟩, h4.mono fun k hk => hk.1⟩
theorem Bys.srcF {w : World} {base : Nat} {v : Value} {l : List UInt8} {F : Nat → Prop} (h : Bys w base v l) (hF : ∀ k, F k → k < base) : ∃ A c, v = .slice A l.length c ∧ l.length ≤ c ∧ c ≤ maxLen ∧ SrcF w F A l := by
  have h0 := h
  obtain ⟨A, c, h1, h2, h3, h4⟩ := Bys.src' h
  refine ⟨A, c, h1, h2, h3, fun hn => ?_⟩
  obtain ⟨bb, off, e1, e2⟩ := h4 hn
  have hl := h0.lt bb (by rw [h1, e1]; rfl)
  exact ⟨bb, off, e1, fun hf => by have := hF bb hf; omega, hl.2, e2⟩
theorem SetsL.same' {a : Nat} {F : Nat → Prop} {L : List Rg} {err : Int} {w w' : World} (h : RSpL w a F L) (hb : Below w.heap.size w w') : SetsL a F (L, err) w (.returned (.int .i64 err)) w' := by
  obtain ⟨M, h1, h2⟩ := h
  exact SetsL.same h1 h2 hb

set_option maxRecDepth 100000 in
set_option maxHeartbeats 2000000 in
theorem rone_any (a : Nat) (F0 : Nat → Prop) (L : List Rg) (hok : Ok L) (base : Int) (r : Rel) (f : Fct) (hf : I64 f.addr) (hfs : I64 f.size) (w : World) (h0 : RSpL w a F0 L) :
    Calls Try.prog 32 #[.pointer (some ⟨a, 0, none⟩), .int .i64 base, .agg #[.int .i64 r.at_, .int .i64 r.kind, .int .i64 r.sym, .int .i64 r.add], .agg #[.int .i64 f.base, .int .i64 f.addr, .int .i64 f.size, .int .i64 f.mod, .int .i64 f.off, .int .i64 f.beh, .bool f.st, .bool f.mi]] w (SetsL a F0 (oneS L base r f) w) := by
  obtain ⟨ra, rk, rsy, rad⟩ := r
  obtain ⟨fba, fad, fsz, fmo, fof, fbe, fst_, fmi⟩ := f
  simp only at hf hfs ⊢
  have h := h0.lt
  refine Calls.mono (R := SetsL a (fun k => F0 k ∧ k < w.heap.size) (oneS L base ⟨ra, rk, rsy, rad⟩ ⟨fba, fad, fsz, fmo, fof, fbe, fst_, fmi⟩) w) ?_ fun _ _ => SetsL.wide
  have hFl : ∀ k, (fun k => F0 k ∧ k < w.heap.size) k → k < w.heap.size := fun k hk => hk.2
  generalize (fun k => F0 k ∧ k < w.heap.size) = F at h hFl ⊢
  have HFL := Lib.hid hFl
  have hbo : ∀ o o2, Below w.heap.size w ((w.alloc o).alloc o2) := fun o o2 => ((Below.refl _ _).alloc (Nat.le_refl _) o).alloc (by simp) o2
  have HS := Lib.hid (fun (r : Int) (w1 : World) (hb : Below w.heap.size w w1) => SetsL.same' (err := r) h hb)
  have HBO := Lib.hid hbo
  clear h0
  by_cases hk : rk = 2
  · subst hk
    cases fmi
    · by_cases hz : fsz = 0
      · subst hz
        rw [show oneS L base ⟨ra, 2, rsy, rad⟩ ⟨fba, fad, 0, fmo, fof, fbe, fst_, false⟩ = (L, 0) from by simp [oneS, copyS]]
        clear h hok hbo hFl hf hfs
        go_enter Try.func32, Try.ntmps32
        go_wp2
        go_ret
        exact HS.out _ _ (HBO.out _ _)
      · have ez : (fsz == 0) = false := beq_eq_false_iff_ne.2 hz
        have C1 := Lib.hid (fun o o2 => rget_l (h.stay (hbo o o2)) hok fad hf fsz 0 hfs (Or.inl rfl))
        by_cases hE : (getS L fad fsz 0).2 = 0
        · rw [show oneS L base ⟨ra, 2, rsy, rad⟩ ⟨fba, fad, fsz, fmo, fof, fbe, fst_, false⟩ = setS L (wrap64 (base + ra)) (getS L fad fsz 0).1 0 from by simp [oneS, copyS, hz, hE]]
          rw [hE] at C1
          have C2 := Lib.hid (fun (w1 : World) (hb : Below w.heap.size w w1) (A : Option Addr) (c : Nat) (hl : (getS L fad fsz 0).1.length ≤ 9223372036854775807) (hs : SrcF w1 F A (getS L fad fsz 0).1) => (rset_l (h.stay hb) hok (wrap64 (base + ra)) (wrap64_i64 _) A c _ hl 0 (Or.inl rfl) hs).mono fun e w' h' => SetsL.after hb h')
          clear HS h hbo hok hz hE hf hfs hFl
          generalize (getS L fad fsz 0).1 = b at C1 C2 ⊢
          generalize hrr : setS L (wrap64 (base + ra)) b 0 = r at C2 ⊢
          clear hrr
          go_enter Try.func32, Try.ntmps32
          go_wp2_with fail
          refine (C1.out _ _).mono ?_
          rintro e w1 ⟨v1, rfl, hb1, h1⟩
          obtain ⟨A, c, rfl, hc1, hc2, hs1⟩ := hb1.srcF (F := F) (fun k hk => by have := HFL.out k hk; simp; omega)
          have r0 : w1.cell? ⟨w.heap.size, 0, none⟩ = some (.int .i64 ra) := (h1.cell (p := ⟨w.heap.size, 0, none⟩) (by simp; omega)).trans ((World.cell?_alloc_lt _ _ _ (by simp)).trans (World.cell?_alloc_at _ _ _ _ rfl))
          have H1 := Lib.hid ((HBO.out _ _).trans (h1.mono (HBO.out _ _).size))
          have HS1 := Lib.hid hs1
          unfold maxLen at hc2
          have hl : b.length ≤ 9223372036854775807 := by omega
          clear hb1 h1 hs1
          go_wp2_with fail
          refine (C2.out _ H1.out A c hl HS1.out).mono ?_
          rintro e w2 ⟨rfl, h2, h3⟩
          have H2 := Lib.hid h2; clear h2
          have H3 := Lib.hid h3; clear h3
          go_wp2
          go_ret
          exact ⟨rfl, H2.out, H3.out⟩
        · rw [show oneS L base ⟨ra, 2, rsy, rad⟩ ⟨fba, fad, fsz, fmo, fof, fbe, fst_, false⟩ = (L, (getS L fad fsz 0).2) from by simp [oneS, copyS, hz, hE]]
          have ee : ((getS L fad fsz 0).2 == 0) = false := beq_eq_false_iff_ne.2 hE
          clear h hbo hok hz hE hf hfs hFl
          generalize (getS L fad fsz 0).2 = E at *
          go_enter Try.func32, Try.ntmps32
          go_wp2_with fail
          refine (C1.out _ _).mono ?_
          rintro e w1 ⟨v1, rfl, hb1, h1⟩
          have H1 := Lib.hid ((HBO.out _ _).trans (h1.mono (HBO.out _ _).size))
          clear hb1 h1
          go_wp2
          go_ret
          exact HS.out _ _ H1.out
    · rw [show oneS L base ⟨ra, 2, rsy, rad⟩ ⟨fba, fad, fsz, fmo, fof, fbe, fst_, true⟩ = (L, 0) from by simp [oneS, copyS]]
      clear h hok hbo hFl hf hfs
      go_enter Try.func32, Try.ntmps32
      go_wp2
      go_ret
      exact HS.out _ _ (HBO.out _ _)
  · have ek : (rk == 2) = false := beq_eq_false_iff_ne.2 hk
    have h1 : oneS L base ⟨ra, rk, rsy, rad⟩ ⟨fba, fad, fsz, fmo, fof, fbe, fst_, fmi⟩ = if (relWord ra rk rad fba fad fsz fmo fof fbe fst_ fmi).2 ≠ 0 then (L, (relWord ra rk rad fba fad fsz fmo fof fbe fst_ fmi).2) else setS L (wrap64 (base + ra)) (bytesS (relWord ra rk rad fba fad fsz fmo fof fbe fst_ fmi).1) 0 := by unfold oneS; rw [if_neg hk]; rfl
    rw [h1]
    have CW := Lib.hid (fun w1 => refWord_any ra rk rsy rad fba fad fsz fmo fof fbe fst_ fmi w1)
    rw [← rel_same] at CW
    clear h1
    generalize relWord ra rk rad fba fad fsz fmo fof fbe fst_ fmi = o at CW ⊢
    obtain ⟨o1, o2⟩ := o
    simp only at CW ⊢
    by_cases hz : o2 = 0
    · subst hz
      rw [if_neg (by simp)]
      have C2 := Lib.hid (fun (w1 : World) (hb : Below w.heap.size w w1) => (rsetWord_l (h.stay hb) hok (wrap64 (base + ra)) (wrap64_i64 _) o1 0 (Or.inl rfl)).mono fun e w' h' => SetsL.after hb h')
      generalize setS L (wrap64 (base + ra)) (bytesS o1) 0 = r at C2 ⊢
      clear HS h hbo hok hk hf hfs hFl
      go_enter Try.func32, Try.ntmps32
      go_wp2_with fail
      refine (CW.out _).mono ?_
      rintro e w1 ⟨rfl, h1⟩
      have r0 : w1.cell? ⟨w.heap.size, 0, none⟩ = some (.int .i64 ra) := (h1.cell (p := ⟨w.heap.size, 0, none⟩) (by simp; omega)).trans ((World.cell?_alloc_lt _ _ _ (by simp)).trans (World.cell?_alloc_at _ _ _ _ rfl))
      have H1 := Lib.hid ((HBO.out _ _).trans (h1.mono (HBO.out _ _).size))
      clear h1
      go_wp2_with fail
      refine (C2.out _ H1.out).mono ?_
      rintro e w2 ⟨rfl, h2, h3⟩
      have H2 := Lib.hid h2; clear h2
      have H3 := Lib.hid h3; clear h3
      go_wp2
      go_ret
      exact ⟨rfl, H2.out, H3.out⟩
    · have ez : (o2 == 0) = false := beq_eq_false_iff_ne.2 hz
      rw [if_pos hz]
      clear h hbo hok hk hf hfs hz hFl
      go_enter Try.func32, Try.ntmps32
      go_wp2_with fail
      refine (CW.out _).mono ?_
      rintro e w1 ⟨rfl, h1⟩
      have H1 := Lib.hid ((HBO.out _ _).trans (h1.mono (HBO.out _ _).size))
      clear h1
      go_wp2
      go_ret
      exact HS.out _ _ H1.out

end Go.Proofs.Ytpononkgeeahdaa
