/-
  Layer 9: the document's test of an image's head: it answers something.
  Conditions: none. (My own text.)
-/
import Derived.Test.YtlkelfaokbdddaaImi
import Derived.Test.YtlkelfaokbdddaaSyw
namespace Go.Proofs.Ytlkelfaokbdddaa
open Go.RowKit Spm
set_option linter.unusedVariables false
set_option linter.unusedSimpArgs false

set_option maxRecDepth 100000 in
set_option maxHeartbeats 4000000 in
theorem head09_any (d : ImgD) (P : Nat → Prop) (w : World) (h : ImgOk w P d) : Calls Try.prog 27 #[.agg (imgD d)] w (BoolE w) := by
  have HOK := Lib.hid (fun (wr : World) (hb : Below w.heap.size w wr) => h.stay hb)
  clear h
  rw [show imgD d = #[.string d.nm, .int .i64 d.fl, .slice d.sA d.sl.length d.sC, .slice d.nA d.nd.length d.nC, .slice d.rA d.rp.length d.rC, .slice d.yA d.sy.length d.yC, .slice d.bA d.bk.length d.bC, .slice d.wA d.wd.length d.wC, .int .i64 d.sh, .slice d.lA d.rl.length d.lC, .slice d.tA d.st.length d.tC, .slice d.iA d.ini.length d.iC, .slice d.fA d.fin.length d.fC, .slice d.xA d.xn d.xC, .int .i64 d.tz] from rfl]
  have M0 := Lib.hid ((Has.start (Below.refl w.heap.size w) (Nat.le_refl _)).newcel 39 #[.string d.nm, .int .i64 d.fl, .slice d.sA d.sl.length d.sC, .slice d.nA d.nd.length d.nC, .slice d.rA d.rp.length d.rC, .slice d.yA d.sy.length d.yC, .slice d.bA d.bk.length d.bC, .slice d.wA d.wd.length d.wC, .int .i64 d.sh, .slice d.lA d.rl.length d.lC, .slice d.tA d.st.length d.tC, .slice d.iA d.ini.length d.iC, .slice d.fA d.fin.length d.fC, .slice d.xA d.xn d.xC, .int .i64 d.tz])
  go_enter Try.func27, Try.ntmps27
  go_upto_region 1 with (fail)
  obtain ⟨W, hW⟩ : ∃ W, (w.alloc (.cells #[.string d.nm, .int .i64 d.fl, .slice d.sA d.sl.length d.sC, .slice d.nA d.nd.length d.nC, .slice d.rA d.rp.length d.rC, .slice d.yA d.sy.length d.yC, .slice d.bA d.bk.length d.bC, .slice d.wA d.wd.length d.wC, .int .i64 d.sh, .slice d.lA d.rl.length d.lC, .slice d.tA d.st.length d.tC, .slice d.iA d.ini.length d.iC, .slice d.fA d.fin.length d.fC, .slice d.xA d.xn d.xC, .int .i64 d.tz] 39)) = W := ⟨_, rfl⟩
  rw [hW] at M0 ⊢
  clear hW
  generalize hB : w.heap.size = b0 at M0 HOK ⊢
  have HB := Lib.hid hB
  clear hB
  have M1 : Hid (Has b0 w W (Star (Cel b0 39 (imgD d)) Emp)) := M0
  clear M0
  have i0 : W.cell? ⟨b0, 0, none⟩ = some (.string d.nm) := M1.out.cellat b0 0 rfl
  have i1 : W.cell? ⟨b0, 1, none⟩ = some (.int .i64 d.fl) := M1.out.cellat b0 1 rfl
  have i3 : W.cell? ⟨b0, 3, none⟩ = some (.slice d.nA d.nd.length d.nC) := M1.out.cellat b0 3 rfl
  have i4 : W.cell? ⟨b0, 4, none⟩ = some (.slice d.rA d.rp.length d.rC) := M1.out.cellat b0 4 rfl
  have MZ := Lib.hid M1.out.bel
  have HO := Lib.hid (HOK.out W M1.out.bel)
  have C1 := Lib.hid (refName_any d.nm HO.out.nm W)
  generalize nameS d.nm = x1 at C1
  have hnm := HO.out.nm
  have hnl := HO.out.nds.rows.len
  have hrl := HO.out.rps.rows.len
  unfold maxLen at hnl hrl hnm
  clear M1 HOK
  by_cases be : d.nm.toList.isEmpty = true
  case' pos => go_wp2_with fail
  case' neg =>
    have be2 : d.nm.toList.isEmpty = false := by simpa using be
    clear be
    go_wp2_with fail
    refine (C1.out).mono ?_
    rintro e w1 ⟨rfl, rfl⟩
    cases x1 <;> go_wp2_with fail
  all_goals first
  | (go_ret; exact ⟨⟨_, rfl⟩, by rw [HB.out]; exact MZ.out⟩)
  | skip
  all_goals
    go_loop [3] (fun i => ∃ k : Nat, k ≤ d.nd.length ∧ i = .int .i64 k) (fun i => d.nd.length - (intOf i).toNat)
    case atStart => exact ⟨0, Nat.zero_le _, rfl⟩
    case round =>
      obtain ⟨k, hk, rfl⟩ := hrel
      by_cases hkn : k < d.nd.length
      · obtain ⟨x, hx⟩ : ∃ x, d.nd[k]? = some x := ⟨_, List.getElem?_eq_getElem hkn⟩
        obtain ⟨b, off, hA, hcell⟩ := HO.out.nds.rows.elem k x hx
        have n0 : W.cell? ⟨b, off + k * 2, none⟩ = some (.string x.nm) := hcell 0 _ rfl
        have n1 : W.cell? ⟨b, off + k * 2 + 1, none⟩ = some (.slice x.A x.vl.length x.c) := hcell 1 _ rfl
        have HIN := Lib.hid (HO.out.nds.in_ x (List.mem_of_getElem? hx))
        have hvm := HIN.out.2.rows.len
        unfold maxLen at hvm
        rw [hA] at i3
        clear hcell hx hA
        go_wp2_with fail
        refine (sized09_any x.nm HIN.out.1 W).mono ?_
        rintro e w1 ⟨⟨b1, rfl⟩, rfl⟩
        cases b1
        · go_wp2
          (go_ret; exact ⟨⟨_, rfl⟩, by rw [HB.out]; exact MZ.out⟩)
        · by_cases hv : (16 : Int) < (x.vl.length : Int)
          · go_wp2
            (go_ret; exact ⟨⟨_, rfl⟩, by rw [HB.out]; exact MZ.out⟩)
          · go_wp2_with fail
            go_loop [4] (fun j => ∃ k2 : Nat, k2 ≤ x.vl.length ∧ j = .int .i64 k2) (fun j => x.vl.length - (intOf j).toNat)
            case atStart => exact ⟨0, Nat.zero_le _, rfl⟩
            case round =>
              obtain ⟨k2, hk2, rfl⟩ := hrel
              by_cases hk2n : k2 < x.vl.length
              · obtain ⟨y, hy⟩ : ∃ y, x.vl[k2]? = some y := ⟨_, List.getElem?_eq_getElem hk2n⟩
                obtain ⟨b', off', hA', m0⟩ := HIN.out.2.rows.elem1 k2 y hy _ rfl
                have C3 := Lib.hid (refName_any y (HIN.out.2.sz y (List.mem_of_getElem? hy)) W)
                rw [hA'] at n1
                clear hy hA'
                generalize nameS y = b2 at C3
                go_wp2_with fail
                refine (C3.out).mono ?_
                rintro e w2 ⟨rfl, rfl⟩
                cases b2
                · go_wp2
                  (go_ret; exact ⟨⟨_, rfl⟩, by rw [HB.out]; exact MZ.out⟩)
                · go_wp2
                  first
                    | (go_round
                       case rel => exact ⟨k2 + 1, by omega, by go_num⟩
                       case measure => simp [intOf]; omega)
                    | (refine ⟨⟨by first | trivial | rfl, ?_⟩, ?_⟩
                       · (repeat apply Exists.intro)
                         refine ⟨?_, rfl⟩
                         exact ⟨k2 + 1, by omega, by go_num⟩
                       · simp [intOf]; omega)
              · go_wp2_with fail
                first
                  | (go_round
                     case rel => exact ⟨k + 1, by omega, by go_num⟩
                     case measure => simp [intOf]; omega)
                  | (refine ⟨⟨by first | trivial | rfl, ?_⟩, ?_⟩
                     · (repeat apply Exists.intro)
                       refine ⟨?_, rfl⟩
                       exact ⟨k + 1, by omega, by go_num⟩
                     · simp [intOf]; omega)
      · go_wp2_with fail
        go_loop [5] (fun i => ∃ k : Nat, k ≤ d.rp.length ∧ i = .int .i64 k) (fun i => d.rp.length - (intOf i).toNat)
        case atStart => exact ⟨0, Nat.zero_le _, rfl⟩
        case round =>
          obtain ⟨k3, hk3, rfl⟩ := hrel
          by_cases hk3n : k3 < d.rp.length
          · obtain ⟨y, hy⟩ : ∃ y, d.rp[k3]? = some y := ⟨_, List.getElem?_eq_getElem hk3n⟩
            obtain ⟨b', off', hA', m0⟩ := HO.out.rps.rows.elem1 k3 y hy _ rfl
            have C3 := Lib.hid (sized09_any y (HO.out.rps.sz y (List.mem_of_getElem? hy)) W)
            rw [hA'] at i4
            clear hy hA'
            go_wp2_with fail
            refine (C3.out).mono ?_
            rintro e w2 ⟨⟨b2, rfl⟩, rfl⟩
            cases b2
            · go_wp2
              (go_ret; exact ⟨⟨_, rfl⟩, by rw [HB.out]; exact MZ.out⟩)
            · go_wp2
              first
                | (go_round
                   case rel => exact ⟨k3 + 1, by omega, by go_num⟩
                   case measure => simp [intOf]; omega)
                | (refine ⟨⟨by first | trivial | rfl, ?_⟩, ?_⟩
                   · (repeat apply Exists.intro)
                     refine ⟨?_, rfl⟩
                     exact ⟨k3 + 1, by omega, by go_num⟩
                   · simp [intOf]; omega)
          · go_wp2
            (go_ret; exact ⟨⟨_, rfl⟩, by rw [HB.out]; exact MZ.out⟩)
end Go.Proofs.Ytlkelfaokbdddaa
