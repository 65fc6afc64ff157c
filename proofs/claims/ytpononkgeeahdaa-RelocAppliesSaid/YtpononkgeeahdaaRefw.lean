/-
  RelocApplies: the walk.
  Conditions: none. (My own text.)
-/
import Derived.Test.YtpononkgeeahdaaRefo
import Derived.Test.YtpononkgeeahdaaBo
import Derived.Test.YtpononkgeeahdaaRel3
import Derived.Deep.RegionWith
namespace Go.Proofs.Ytpononkgeeahdaa
open Go.RowKit Spm
set_option linter.unusedVariables false
set_option linter.unusedSimpArgs false

set_option maxRecDepth 100000 in
theorem fcts_info : (Try.prog.info? 31).map (fun i => (i.zero, i.size, i.bytes)) = some (some (.agg #[.int .i64 0, .int .i64 0, .int .i64 0, .int .i64 0, .int .i64 0, .int .i64 0, .bool false, .bool false]), 8, 56) := by kernel_rfl
set_option maxRecDepth 100000 in
set_option maxHeartbeats 4000000 in
theorem applies_walk (v : Value) (l : List ActM) (base : Int) (vr vf : Value) (rs : List Rel) (fs : List Fct) (w : World) (hv : ActsV w w.heap.size v l)
    (hr : RowsAt 4 relC w (fun k => k < w.heap.size) vr rs) (hf : RowsAt 8 fctC w (fun k => k < w.heap.size) vf fs) (hrb : rs.length * 32 ≤ 140737488351232) (hfb : fs.length * 56 ≤ 140737488351232) (hfs : ∀ f ∈ fs, I64 f.addr ∧ I64 f.size) :
    Calls Try.prog 8 #[v, .int .i64 base, vr, vf] w fun e w' => e = .returned (.bool true) ∧ Below w.heap.size w w' := by
  have HRV := Lib.hid hr
  have HFV := Lib.hid hf
  obtain ⟨AR, cr, rfl, hcr, hmr, hrow⟩ := hr
  obtain ⟨AF, cf, rfl, hcf, hmf, hfow⟩ := hf
  have hn1 : rs.length ≤ 9223372036854775807 := by omega
  have hm1 : fs.length ≤ 9223372036854775807 := by omega
  have A1 := Lib.hid awake_any
  have HR := Lib.hid hrow
  have HF := Lib.hid hfow
  have HFS := Lib.hid hfs
  have HFS2 : Hid (∀ f ∈ fs, f.addr ≤ 9223372036854775807) := Lib.hid fun f hf => (hfs f hf).1.2
  have C1 := Lib.hid (fun (w1 : World) (hb : Below w.heap.size w w1) => both16 hb hb.size v l hv)
  have CA := Lib.hid (fun (w1 : World) (hb : Below w.heap.size w w1) => rels_append (HRV.out.keep (w' := w1) (fun k hk _ => hb.block k hk)) hrb)
  generalize playS [] (l.map (·.x)) = L at C1
  obtain ⟨i0, hi, hz0, hz1, hz2⟩ := info_parts fcts_info
  have HI := Lib.hid (And.intro hi (And.intro hz0 (And.intro hz1 hz2))); clear hi hz0 hz1 hz2
  clear hv hrow hfow hfs hcr hmr hcf hmf
  go_enter Try.func8, Try.ntmps8
  go_wp2_with fail
  refine (A1.out _).mono ?_
  rintro e w1 ⟨rfl, h1⟩
  have H1 := Lib.hid h1; clear h1
  go_wp2_with fail
  refine (C1.out _ H1.out).mono ?_
  rintro e w2 ⟨a, c, rfl, m2⟩
  have M2 := Lib.hid m2; clear m2
  obtain ⟨v3, w3, hrun, hown, hbel⟩ := CA.out w2 M2.out.bel 40
  have HRUN := Lib.hid hrun
  have M3 := Lib.hid (M2.out.owned (n := 4) (cells := relC) (fun _ => rfl) hown hbel)
  obtain ⟨AO, co, rfl, hoc, hom, hoo⟩ := RowsAt.of_own (n := 4) (cells := relC) (fun _ => rfl) hown
  clear hrun hown hbel hoc hom hoo
  go_wp2_with (at_builtin; refine Lib.wpList_append_run _ rfl _ _ _ _ rfl _ _ rfl rfl _ _ HRUN.out ?_)
  go_loopw [13, 14] (fun v i wr => ∃ k : Nat, k ≤ fs.length ∧ i = .int .i64 k ∧ Hid (wr.ownsRow w3.heap.size 31 8 v k ((fs.take k).flatMap fctC)) ∧ Below w3.heap.size w3 wr) (fun _ i _ => fs.length - (intOf i).toNat)
  case atStart => exact ⟨0, Nat.zero_le _, rfl, Lib.hid (World.ownsRow_nil _ _ _ _), Below.refl _ _⟩
  case round =>
    obtain ⟨k, hk, rfl, hown, hbel⟩ := hrel
    by_cases hlt : k < fs.length
    · obtain ⟨f, hfk⟩ : ∃ f, fs[k]? = some f := ⟨fs[k], List.getElem?_eq_getElem hlt⟩
      obtain ⟨fb, fo, rfl, hfl, _, hfc⟩ := HF.out k f hfk
      have HS := Lib.hid (flat_snoc (cells := fctC) fs k f hfk)
      have fc : ∀ (j' : Nat) (u : Value), (fctC f)[j']? = some u → wr.cell? ⟨fb, fo + k * 8 + j', none⟩ = some u := fun j' u hu => ((M3.out.bel.trans (hbel.mono M3.out.le)).cell (p := ⟨fb, fo + k * 8 + j', none⟩) hfl).trans (hfc j' u hu)
      obtain ⟨fba, fad, fsz, fmo, fof, fbe, fst_, fmi⟩ := f
      have f0 : wr.cell? ⟨fb, fo + k * 8, none⟩ = some (.int .i64 fba) := fc 0 _ rfl
      have f1 : wr.cell? ⟨fb, fo + k * 8 + 1, none⟩ = some (.int .i64 fad) := fc 1 _ rfl
      have f2 : wr.cell? ⟨fb, fo + k * 8 + 2, none⟩ = some (.int .i64 fsz) := fc 2 _ rfl
      have f3 : wr.cell? ⟨fb, fo + k * 8 + 3, none⟩ = some (.int .i64 fmo) := fc 3 _ rfl
      have f4 : wr.cell? ⟨fb, fo + k * 8 + 4, none⟩ = some (.int .i64 fof) := fc 4 _ rfl
      have f5 : wr.cell? ⟨fb, fo + k * 8 + 5, none⟩ = some (.int .i64 fbe) := fc 5 _ rfl
      have f6 : wr.cell? ⟨fb, fo + k * 8 + 6, none⟩ = some (.bool fst_) := fc 6 _ rfl
      have f7 : wr.cell? ⟨fb, fo + k * 8 + 7, none⟩ = some (.bool fmi) := fc 7 _ rfl
      have HB := Lib.hid hbel
      clear hfc fc hfk hbel
      go_wp2_with fail
      refine (fact_any fba fad fsz fmo fof fbe fst_ fmi _).mono ?_
      rintro e w4 ⟨rfl, h4⟩
      have H4 : Hid (Below w3.heap.size w3 w4) := Lib.hid (HB.out.trans (h4.mono HB.out.size))
      have HO4 : Hid (w4.ownsRow w3.heap.size 31 8 u13 k ((fs.take k).flatMap fctC)) := Lib.hid (owns_block hown.out (fun g hg => h4.block g (hown.out.lt g hg).2))
      clear h4 hown
      go_wp2_with (at_builtin; refine wpList_append_own _ rfl _ _ 54 rfl w3.heap.size 31 i0 (.agg #[.int .i64 0, .int .i64 0, .int .i64 0, .int .i64 0, .int .i64 0, .int .i64 0, .bool false, .bool false]) 8 56 Try.underlying54 HI.out.1 HI.out.2.1 HI.out.2.2.1 HI.out.2.2.2 rfl (by decide) _ k _ rfl (HO4.out.alloc _) ⟨w4.heap.size, 0, none⟩ 1 1 [.int .i64 fba, .int .i64 fad, .int .i64 fsz, .int .i64 fmo, .int .i64 fof, .int .i64 fbe, .bool fst_, .bool fmi] rfl ?c1 ?c2 ?c3 ?c4 ?c5 ?c6 ?_)
      case c1 => rfl
      case c2 =>
        intro j u hj
        rw [Addr.add_lit, World.cell?_alloc_at _ _ _ _ rfl]
        simpa using hj
      case c3 => (intro u hu; simp only [List.mem_cons, List.not_mem_nil, or_false] at hu; rcases hu with rfl | rfl | rfl | rfl | rfl | rfl | rfl | rfl <;> rfl)
      case c4 => unfold maxLen; omega
      case c5 => omega
      case c6 => have := H4.out.size; simp; omega
      intro v' w5 hown1 hgrow _
      have hlt1 := HO4.out.lt
      have H5 : Hid (w5.ownsRow w3.heap.size 31 8 v' (k + 1) ((fs.take (k + 1)).flatMap fctC)) := Lib.hid (by rw [HS.out]; exact hown1)
      have H6 : Hid (Below w3.heap.size w3 w5) := Lib.hid ((H4.out.alloc H4.out.size _).grown hgrow (by have := H4.out.size; simp; omega) (fun j hj => (hlt1 j hj).1))
      clear hown1 hgrow hlt1
      go_wp2
      go_roundw
      case rel => exact ⟨k + 1, by omega, by go_num, H5, H6.out⟩
      case measure => simp [intOf]; omega
    · obtain rfl : k = fs.length := by omega
      have hown' := hown.out
      rw [List.take_of_length_le (Nat.le_refl _)] at hown'
      have M4 := Lib.hid (M3.out.owned (n := 8) (cells := fctC) (fun _ => rfl) hown' hbel)
      clear hown hown' hbel
      have C5 := Lib.hid (own_apply M4.out.r3 base _ _ rs fs HFS2.out (Away.right Away.own) (Away.below HFV.out M4.out.bel))
      have C6 := Lib.hid (fun (w5 : World) (m : Has w.heap.size w w5 (Star (Sp a (applyS L base rs fs).1) (Star (Rw 8 fctC u13 fs) (Star (Rw 4 relC (.slice AO rs.length co) rs) (Star (Rf c L) Emp))))) => own_rapply m.r4 base _ _ rs fs HFS.out (Away.below HRV.out m.bel) (Away.right Away.own))
      generalize applyS L base rs fs = R at C5 C6
      obtain ⟨L2, E⟩ := R
      simp only at C5 C6
      go_wp2_with fail
      refine (C5.out).mono ?_
      rintro e w5 ⟨rfl, m5⟩
      have M5 := Lib.hid m5; clear m5
      go_wp2_with fail
      refine (C6.out _ M5.out).mono ?_
      rintro e w6 ⟨rfl, m6⟩
      have M6 := Lib.hid m6.swap; clear m6 M5 M4 C5 C6
      go_wp2_with fail
      go_loopw [17] (fun i wr => ∃ k : Nat, k ≤ rs.length ∧ i = .int .i64 k ∧ Hid (Has w.heap.size w wr (Star (Sp a L2) (Star (Rf c L2) (Star (Rw 8 fctC u13 fs) (Star (Rw 4 relC (.slice AO rs.length co) rs) Emp)))))) (fun i _ => rs.length - (intOf i).toNat)
      case atStart => exact ⟨0, Nat.zero_le _, rfl, M6⟩
      case round =>
        obtain ⟨k, hk, rfl, hM⟩ := hrel
        by_cases hlt : k < rs.length
        · obtain ⟨r, hrk⟩ : ∃ r, rs[k]? = some r := ⟨rs[k], List.getElem?_eq_getElem hlt⟩
          obtain ⟨rb, ro, rfl, hrl, _, hrc⟩ := HR.out k r hrk
          have rc : ∀ (j' : Nat) (u : Value), (relC r)[j']? = some u → wr.cell? ⟨rb, ro + k * 4 + j', none⟩ = some u := fun j' u hu => (hM.out.bel.cell (p := ⟨rb, ro + k * 4 + j', none⟩) hrl).trans (hrc j' u hu)
          obtain ⟨F0, ⟨F1, F2, hx1, _⟩, _⟩ := hM.out.r4.own
          obtain ⟨A', c', hv', _, _, hoo⟩ := hx1
          simp only [Value.slice.injEq, true_and] at hv'
          obtain ⟨rfl, rfl⟩ := hv'
          obtain ⟨ob, oo, rfl, _, _, oc⟩ := hoo k r hrk
          obtain ⟨ra, rk, rsy, rad⟩ := r
          have r0 : wr.cell? ⟨rb, ro + k * 4, none⟩ = some (.int .i64 ra) := rc 0 _ rfl
          have r1 : wr.cell? ⟨rb, ro + k * 4 + 1, none⟩ = some (.int .i64 rk) := rc 1 _ rfl
          have r2 : wr.cell? ⟨rb, ro + k * 4 + 2, none⟩ = some (.int .i64 rsy) := rc 2 _ rfl
          have r3 : wr.cell? ⟨rb, ro + k * 4 + 3, none⟩ = some (.int .i64 rad) := rc 3 _ rfl
          have o0 : wr.cell? ⟨ob, oo + k * 4, none⟩ = some (.int .i64 ra) := oc 0 _ rfl
          have o1 : wr.cell? ⟨ob, oo + k * 4 + 1, none⟩ = some (.int .i64 rk) := oc 1 _ rfl
          have o2 : wr.cell? ⟨ob, oo + k * 4 + 2, none⟩ = some (.int .i64 rsy) := oc 2 _ rfl
          have o3 : wr.cell? ⟨ob, oo + k * 4 + 3, none⟩ = some (.int .i64 rad) := oc 3 _ rfl
          have q0 : (0 : Int) ≤ (k : Int) := by omega
          have q1 : (k : Int) < (rs.length : Int) := by omega
          have MD := Lib.hid hM.out
          clear rc hrc oc hoo hrk hM
          go_wp2_with fail
          go_quiet (fail)
          go_wp2
          go_roundw
          case rel => exact ⟨k + 1, by omega, by go_num, Lib.hid (MD.out.stay (below_drewN (Below.refl _ _) _))⟩
          case measure => simp [intOf]; omega
        · have C7 := Lib.hid (alike16 hM.out)
          go_wp2_with fail
          refine (C7.out).mono ?_
          rintro e w7 ⟨rfl, m7⟩
          have HB7 := Lib.hid m7.bel
          clear m7
          go_wp2
          go_ret
          exact ⟨by simp, HB7.out⟩
end Go.Proofs.Ytpononkgeeahdaa
