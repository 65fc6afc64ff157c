/-
  Layer 16: what Apply of the document does.
  Conditions: none. (My own text.)
-/
import Derived.Test.YtpononkgeeahdaaRea
namespace Go.Proofs.Ytpononkgeeahdaa
open Go.RowKit Spm
set_option linter.unusedVariables false
set_option linter.unusedSimpArgs false

attribute [local go_sem ↓] Go.wp_at_zero Go.wp_at_succ
set_option maxRecDepth 100000 in
set_option maxHeartbeats 2000000 in
theorem rapply_any (a : Nat) (F : Nat → Prop) (L : List Rg) (hok : Ok L) (base : Int) (vr vf : Value) (rs : List Rel) (fs : List Fct) (hfs : ∀ f ∈ fs, I64 f.addr ∧ I64 f.size) (w : World) (h : RSpL w a F L)
    (hr : RowsAt 4 relC w (fun k => ¬ F k) vr rs) (hf : RowsAt 8 fctC w (fun k => ¬ F k) vf fs) :
    Calls Try.prog 21 #[.pointer (some ⟨a, 0, none⟩), .int .i64 base, vr, vf] w (SetsL a F (applyS L base rs fs) w) := by
  obtain ⟨AR, cr, rfl, hcr, hmr, hrow⟩ := hr
  obtain ⟨AF, cf, rfl, hcf, hmf, hfow⟩ := hf
  unfold maxLen at hmr hmf
  by_cases hlen : rs.length = fs.length
  · have HR := Lib.hid hrow
    have HF := Lib.hid hfow
    have HFS := Lib.hid hfs
    rw [show applyS L base rs fs = applyL base (rs.zip fs).reverse L from by simp [applyS, hlen]]
    have hzl : (rs.zip fs).length = rs.length := by simp [List.length_zip, hlen]
    have HZL := Lib.hid hzl
    have HLEN := Lib.hid hlen
    rw [← hlen]
    have HS := Lib.hid h
    have HOK := Lib.hid hok
    clear hrow hfow hfs h hok hzl hcf hmf hlen
    go_enter Try.func21, Try.ntmps21
    go_wp2
    go_loopw [9] (fun i wr => ∃ (j : Nat) (Lk : List Rg), j ≤ rs.length ∧ i = .int .i64 ((rs.length : Int) - (j : Int)) ∧ Hid (RSpL wr a (fun k => F k ∨ w.heap.size ≤ k) Lk) ∧ Hid (Ok Lk) ∧ Hid (Keeps F w wr) ∧ Hid (applyL base ((rs.zip fs).take j).reverse Lk = applyL base (rs.zip fs).reverse L)) (fun i _ => ((rs.length : Int) - intOf i).toNat)
    case atStart =>
      refine ⟨rs.length, L, Nat.le_refl _, ?_, Lib.hid ?_, HOK, Lib.hid (Keeps.refl _ _), Lib.hid (by rw [List.take_of_length_le (by rw [HZL.out]; exact Nat.le_refl _)])⟩
      · simp
      · obtain ⟨M, h1, h2⟩ := HS.out
        exact ⟨M, h1.mono (fun k hk _ => .inl hk), h2⟩
    case round =>
      obtain ⟨j, Lk, hj, rfl, hP, hO, hK, hA⟩ := hrel
      cases j with
      | zero =>
        have HE : Hid (applyL base (rs.zip fs).reverse L = (Lk, 0)) := Lib.hid (by rw [← hA.out]; rfl)
        go_wp2
        go_ret
        rw [HE.out]
        exact ⟨rfl, hP.out, hK.out⟩
      | succ j =>
        obtain ⟨r, hrj⟩ : ∃ r, rs[j]? = some r := ⟨rs[j]'(by omega), List.getElem?_eq_getElem _⟩
        obtain ⟨f, hfj⟩ : ∃ f, fs[j]? = some f := ⟨fs[j]'(by have := HLEN.out; omega), List.getElem?_eq_getElem _⟩
        obtain ⟨rb, ro, rfl, hrF, hrl, hrc⟩ := HR.out j r hrj
        obtain ⟨fb, fo, rfl, hfF, hfl, hfc⟩ := HF.out j f hfj
        have hfa := HFS.out f (List.mem_of_getElem? hfj)
        have hstep : ((rs.zip fs).take (j + 1)).reverse = (r, f) :: ((rs.zip fs).take j).reverse := by
          have hz : (rs.zip fs)[j]? = some (r, f) := by rw [List.getElem?_zip_eq_some]; exact ⟨hrj, hfj⟩
          obtain ⟨h1, h2⟩ := List.getElem?_eq_some_iff.1 hz
          rw [List.take_succ_eq_append_getElem h1, h2, List.reverse_append]
          rfl
        have hA' := hA.out
        rw [hstep] at hA'
        have rc : ∀ (j' : Nat) (u : Value), (relC r)[j']? = some u → wr.cell? ⟨rb, ro + j * 4 + j', none⟩ = some u := fun j' u hu => (World.cell?_of_block (a := ⟨rb, ro + j * 4 + j', none⟩) (hK.out.block rb hrl hrF)).trans (hrc j' u hu)
        have fc : ∀ (j' : Nat) (u : Value), (fctC f)[j']? = some u → wr.cell? ⟨fb, fo + j * 8 + j', none⟩ = some u := fun j' u hu => (World.cell?_of_block (a := ⟨fb, fo + j * 8 + j', none⟩) (hK.out.block fb hfl hfF)).trans (hfc j' u hu)
        have HST := apply_step hA' rfl
        have HOK1 := Lib.hid (oneS_ok hO.out base r f)
        have C1 := Lib.hid (rone_any a _ Lk hO.out base r f hfa.1 hfa.2 wr.drew (hP.out.stay below_drew2))
        simp only at HST
        generalize oneS Lk base r f = R at HOK1 HST C1
        obtain ⟨ra, rk, rsy, rad⟩ := r
        obtain ⟨fba, fad, fsz, fmo, fof, fbe, fst_, fmi⟩ := f
        have r0 : wr.cell? ⟨rb, ro + j * 4, none⟩ = some (.int .i64 ra) := rc 0 _ rfl
        have r1 : wr.cell? ⟨rb, ro + j * 4 + 1, none⟩ = some (.int .i64 rk) := rc 1 _ rfl
        have r2 : wr.cell? ⟨rb, ro + j * 4 + 2, none⟩ = some (.int .i64 rsy) := rc 2 _ rfl
        have r3 : wr.cell? ⟨rb, ro + j * 4 + 3, none⟩ = some (.int .i64 rad) := rc 3 _ rfl
        have f0 : wr.cell? ⟨fb, fo + j * 8, none⟩ = some (.int .i64 fba) := fc 0 _ rfl
        have f1 : wr.cell? ⟨fb, fo + j * 8 + 1, none⟩ = some (.int .i64 fad) := fc 1 _ rfl
        have f2 : wr.cell? ⟨fb, fo + j * 8 + 2, none⟩ = some (.int .i64 fsz) := fc 2 _ rfl
        have f3 : wr.cell? ⟨fb, fo + j * 8 + 3, none⟩ = some (.int .i64 fmo) := fc 3 _ rfl
        have f4 : wr.cell? ⟨fb, fo + j * 8 + 4, none⟩ = some (.int .i64 fof) := fc 4 _ rfl
        have f5 : wr.cell? ⟨fb, fo + j * 8 + 5, none⟩ = some (.int .i64 fbe) := fc 5 _ rfl
        have f6 : wr.cell? ⟨fb, fo + j * 8 + 6, none⟩ = some (.bool fst_) := fc 6 _ rfl
        have f7 : wr.cell? ⟨fb, fo + j * 8 + 7, none⟩ = some (.bool fmi) := fc 7 _ rfl
        have HSTH := Lib.hid HST; clear HST
        clear rc fc hrc hfc hrj hfj hA' hstep hA hrF hfF hfa
        have j1 : (0 : Int) ≤ (j : Int) := by omega
        have j2 : (j : Int) < (rs.length : Int) := by omega
        have j3 : (rs.length : Int) - ((j + 1 : Nat) : Int) < (rs.length : Int) := by omega
        have j4 : IntKind.i64.wrap ((rs.length : Int) - 1) = (rs.length : Int) - 1 := by rw [IntKind.wrap_i64]; omega
        have j5 : IntKind.i64.wrap ((rs.length : Int) - 1 - ((rs.length : Int) - ((j + 1 : Nat) : Int))) = (j : Int) := by
          rw [show (rs.length : Int) - 1 - ((rs.length : Int) - ((j + 1 : Nat) : Int)) = (j : Int) by omega, IntKind.wrap_i64]; omega
        have j6 : (rs.length : Int) - 1 - ((rs.length : Int) - ((j + 1 : Nat) : Int)) = (j : Int) := by omega
        generalize hii : (rs.length : Int) - ((j + 1 : Nat) : Int) = ii at j3 j5 j6 ⊢
        have HII := Lib.hid hii; clear hii
        go_wp2_with fail
        go_still_tail 10, (by kernel_rfl)
        go_wp2_with fail
        refine (C1.out).mono ?_
        rintro e w2 ⟨rfl, ⟨M2, h2, hp2⟩, h3⟩
        have H2 : Hid (RSpL w2 a (fun k => F k ∨ w.heap.size ≤ k) R.1) := Lib.hid ⟨M2, h2.mono (fun k hk _ => by have : w.heap.size ≤ wr.drew.heap.size := hK.out.size; rcases hk with hk | hk; exact hk; exact .inr (by omega)), hp2⟩
        have H3 : Hid (Keeps F w w2) := Lib.hid (hK.out.trans (Keeps.trans (Keeps.of_below below_drew2) h3 (fun i hi => .inl hi)) (fun i hi => hi))
        clear h2 h3 hp2
        have HST := HSTH.out
        obtain ⟨q1, q2⟩ := HST
        by_cases hz : R.2 = 0
        · have HN := Lib.hid (q1 hz)
          rw [hz]
          clear q1 q2 hz
          go_wp2
          go_roundw
          case rel => exact ⟨j, R.1, by omega, by have := HII.out; go_num, Lib.hid H2.out, HOK1, Lib.hid H3.out, HN⟩
          case measure => have := HII.out; simp [intOf]; omega
        · have HN := Lib.hid (q2 hz)
          have ez : (R.2 == 0) = false := beq_eq_false_iff_ne.2 hz
          clear q1 q2 hz
          go_wp2
          go_ret
          rw [HN.out]
          exact ⟨rfl, H2.out, H3.out⟩
  · rw [show applyS L base rs fs = (L, 1) from by simp [applyS, hlen]]
    have hne : ¬ ((rs.length : Int) = (fs.length : Int)) := by omega
    have HS := Lib.hid (SetsL.same' (err := 1) h (Below.refl _ _))
    clear h hok hrow hfow hfs
    go_enter Try.func21, Try.ntmps21
    go_wp2
    go_ret
    exact HS.out

theorem own_rapply {B : Nat} {w wr : World} {a : Nat} {L : List Rg} {Y : Res} [hY : Fr Y] (h : Has B w wr (Star (Rf a L) Y)) (base : Int) (vr vf : Value) (rs : List Rel) (fs : List Fct) (hfs : ∀ f ∈ fs, I64 f.addr ∧ I64 f.size)
    (hr : Away 4 relC vr rs B wr Y) (hf : Away 8 fctC vf fs B wr Y) :
    Calls Try.prog 21 #[.pointer (some ⟨a, 0, none⟩), .int .i64 base, vr, vf] wr fun e w' => e = .returned (.int .i64 (applyS L base rs fs).2) ∧ Has B w w' (Star (Rf a (applyS L base rs fs).1) Y) :=
  h.callY fun F G ⟨h1, ok⟩ h2 hd hB => (rapply_any a F L ok base vr vf rs fs hfs wr h1 (hr F G h2 hd hB) (hf F G h2 hd hB)).mono fun _ _ hs => ⟨hs.1, Goes.setsL hs (applyS_ok ok _ _ _)⟩

end Go.Proofs.Ytpononkgeeahdaa
