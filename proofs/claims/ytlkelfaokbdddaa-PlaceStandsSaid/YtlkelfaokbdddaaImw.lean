/-
  Layer 9: how many bytes a relocation fills in: some number.
  Conditions: none. (My own text.)
-/
import Derived.Test.YtlkelfaokbdddaaImi
import Derived.Test.YtlkelfaokbdddaaImv
namespace Go.Proofs.Ytlkelfaokbdddaa
open Go.RowKit Spm
set_option linter.unusedVariables false
set_option linter.unusedSimpArgs false

set_option maxRecDepth 100000 in
set_option maxHeartbeats 4000000 in
theorem wide09_any (d : ImgD) (P : Nat → Prop) (w : World) (h : ImgOk w P d) (r : Rl) : Calls Try.prog 65 #[.agg (imgD d), .agg (rlA r)] w (IntE w) := by
  have HOK := Lib.hid (fun (wr : World) (hb : Below w.heap.size w wr) => h.stay hb)
  clear h
  rw [show imgD d = #[.string d.nm, .int .i64 d.fl, .slice d.sA d.sl.length d.sC, .slice d.nA d.nd.length d.nC, .slice d.rA d.rp.length d.rC, .slice d.yA d.sy.length d.yC, .slice d.bA d.bk.length d.bC, .slice d.wA d.wd.length d.wC, .int .i64 d.sh, .slice d.lA d.rl.length d.lC, .slice d.tA d.st.length d.tC, .slice d.iA d.ini.length d.iC, .slice d.fA d.fin.length d.fC, .slice d.xA d.xn d.xC, .int .i64 d.tz] from rfl, show rlA r = #[.int .i64 r.at_, .int .i64 r.kind, .int .i64 r.sym, .int .i64 r.add] from rfl]
  have M0 := Lib.hid (((Has.start (Below.refl w.heap.size w) (Nat.le_refl _)).newcel 39 #[.string d.nm, .int .i64 d.fl, .slice d.sA d.sl.length d.sC, .slice d.nA d.nd.length d.nC, .slice d.rA d.rp.length d.rC, .slice d.yA d.sy.length d.yC, .slice d.bA d.bk.length d.bC, .slice d.wA d.wd.length d.wC, .int .i64 d.sh, .slice d.lA d.rl.length d.lC, .slice d.tA d.st.length d.tC, .slice d.iA d.ini.length d.iC, .slice d.fA d.fin.length d.fC, .slice d.xA d.xn d.xC, .int .i64 d.tz]).newcel 116 #[.int .i64 r.at_, .int .i64 r.kind, .int .i64 r.sym, .int .i64 r.add])
  have e1 : (w.alloc (.cells #[.string d.nm, .int .i64 d.fl, .slice d.sA d.sl.length d.sC, .slice d.nA d.nd.length d.nC, .slice d.rA d.rp.length d.rC, .slice d.yA d.sy.length d.yC, .slice d.bA d.bk.length d.bC, .slice d.wA d.wd.length d.wC, .int .i64 d.sh, .slice d.lA d.rl.length d.lC, .slice d.tA d.st.length d.tC, .slice d.iA d.ini.length d.iC, .slice d.fA d.fin.length d.fC, .slice d.xA d.xn d.xC, .int .i64 d.tz] 39)).heap.size = w.heap.size + 1 := by simp
  rw [e1] at M0
  go_enter Try.func65, Try.ntmps65
  go_upto_region 1 with (fail)
  obtain ⟨W, hW⟩ : ∃ W, ((w.alloc (.cells #[.string d.nm, .int .i64 d.fl, .slice d.sA d.sl.length d.sC, .slice d.nA d.nd.length d.nC, .slice d.rA d.rp.length d.rC, .slice d.yA d.sy.length d.yC, .slice d.bA d.bk.length d.bC, .slice d.wA d.wd.length d.wC, .int .i64 d.sh, .slice d.lA d.rl.length d.lC, .slice d.tA d.st.length d.tC, .slice d.iA d.ini.length d.iC, .slice d.fA d.fin.length d.fC, .slice d.xA d.xn d.xC, .int .i64 d.tz] 39)).alloc (.cells #[.int .i64 r.at_, .int .i64 r.kind, .int .i64 r.sym, .int .i64 r.add] 116)) = W := ⟨_, rfl⟩
  rw [hW] at M0 ⊢
  clear hW e1
  generalize w.heap.size + 1 = b1 at M0 ⊢
  generalize hB : w.heap.size = b0 at M0 HOK ⊢
  have HB := Lib.hid hB
  clear hB
  have M1 : Hid (Has b0 w W (Star (Cel b1 116 (rlA r)) (Star (Cel b0 39 (imgD d)) Emp))) := M0
  clear M0
  have i5 : W.cell? ⟨b0, 5, none⟩ = some (.slice d.yA d.sy.length d.yC) := M1.out.cellat b0 5 rfl
  have r0 : W.cell? ⟨b1, 0, none⟩ = some (.int .i64 r.at_) := M1.out.cellat b1 0 rfl
  have r1 : W.cell? ⟨b1, 1, none⟩ = some (.int .i64 r.kind) := M1.out.cellat b1 1 rfl
  have r2 : W.cell? ⟨b1, 2, none⟩ = some (.int .i64 r.sym) := M1.out.cellat b1 2 rfl
  have r3 : W.cell? ⟨b1, 3, none⟩ = some (.int .i64 r.add) := M1.out.cellat b1 3 rfl
  have MZ := Lib.hid M1.out.bel
  have HO := Lib.hid (HOK.out W M1.out.bel)
  have hsl := HO.out.sys.rows.len
  unfold maxLen at hsl
  clear M1 HOK
  obtain ⟨ra, rk, rs, rd⟩ := r
  simp only at r0 r1 r2 r3 ⊢
  by_cases hs : 0 ≤ rs ∧ rs < (d.sy.length : Int)
  · obtain ⟨k, rfl⟩ : ∃ k : Nat, rs = k := ⟨rs.toNat, by omega⟩
    have hkn : k < d.sy.length := by omega
    obtain ⟨x, hx⟩ : ∃ x, d.sy[k]? = some x := ⟨_, List.getElem?_eq_getElem hkn⟩
    obtain ⟨b, off, hA, hcell⟩ := HO.out.sys.rows.elem k x hx
    have c8 : W.cell? ⟨b, off + k * 9 + 8, none⟩ = some (.int .i64 x.sz) := hcell 8 _ rfl
    rw [hA] at i5
    clear hA hcell hx hs HO
    go_wp2
    all_goals (go_ret; exact ⟨⟨_, rfl⟩, by rw [HB.out]; exact MZ.out⟩)
  · clear HO
    go_wp2
    all_goals (go_ret; exact ⟨⟨_, rfl⟩, by rw [HB.out]; exact MZ.out⟩)
end Go.Proofs.Ytlkelfaokbdddaa
