/-
  Layer 7: SymverHidden's walk.
  Conditions: none. (My own text.)
-/
import Derived.Test.YthajdklmklaelaaSyh
import Derived.Test.YthajdklmklaelaaBlk
import Derived.Deep.RegionHeld3
import Derived.Deep.DeepCutAuto
namespace Go.Proofs.Ythajdklmklaelaa
open Go.RowKit
set_option linter.unusedVariables false
set_option linter.unusedSimpArgs false

/-- Two rows of cells, in a world that is as w1 was. -/
abbrev Two (g1 : Nat) (c1 : Array Value) (g2 : Nat) (c2 : Array Value) (w1 w' : World) : Prop :=
  (∀ k_ : Nat, w'.cell? ⟨g2, k_, none⟩ = c2[k_]?) ∧ (∀ k_ : Nat, w'.cell? ⟨g1, k_, none⟩ = c1[k_]?) ∧ w1.heap.size ≤ w'.heap.size ∧ g2 < w1.heap.size ∧ g1 < w1.heap.size ∧ Below w1.heap.size w1 w'
theorem Two.drew {g1 g2 : Nat} {c1 c2 : Array Value} {w1 w' : World} (h : Two g1 c1 g2 c2 w1 w') : Two g1 c1 g2 c2 w1 w'.drew := ⟨h.1, h.2.1, h.2.2.1, h.2.2.2.1, h.2.2.2.2.1, h.2.2.2.2.2.drew⟩
theorem Two.alloc {g1 g2 : Nat} {c1 c2 : Array Value} {w1 w' : World} (h : Two g1 c1 g2 c2 w1 w') (o : Obj) : Two g1 c1 g2 c2 w1 (w'.alloc o) :=
  ⟨fun k_ => (World.cell?_alloc_lt _ _ _ (Nat.lt_of_lt_of_le h.2.2.2.1 h.2.2.1)).trans (h.1 k_), fun k_ => (World.cell?_alloc_lt _ _ _ (Nat.lt_of_lt_of_le h.2.2.2.2.1 h.2.2.1)).trans (h.2.1 k_), by have := h.2.2.1; simp; omega, h.2.2.2.1, h.2.2.2.2.1, h.2.2.2.2.2.alloc h.2.2.1 _⟩
theorem Two.put {g1 g2 : Nat} {c1 c2 : Array Value} {w1 w' : World} (h : Two g1 c1 g2 c2 w1 w') {p : Addr} (hp : w1.heap.size ≤ p.block) (v : Value) : Two g1 c1 g2 c2 w1 (w'.setCell p v) :=
  ⟨fun k_ => (World.cell?_setCell_other _ _ _ _ (fun e => by have h1 := congrArg Addr.block e; have := h.2.2.2.1; simp at h1; omega)).trans (h.1 k_), fun k_ => (World.cell?_setCell_other _ _ _ _ (fun e => by have h1 := congrArg Addr.block e; have := h.2.2.2.2.1; simp at h1; omega)).trans (h.2.1 k_), by have := h.2.2.1; simpa [World.setCell] using this, h.2.2.2.1, h.2.2.2.2.1, h.2.2.2.2.2.setCell hp _⟩
theorem Two.put9 {g1 g2 g' : Nat} {c1 c2 : Array Value} {w1 w' : World} (h : Two g1 c1 g2 c2 w1 w') (hp : w1.heap.size ≤ g') (v0 v1 v2 v3 v4 v5 v6 v7 v8 : Value) : Two g1 c1 g2 c2 w1
    (((((((((w'.setCell ⟨g', 0, none⟩ v0).setCell ⟨g', 1, none⟩ v1).setCell ⟨g', 2, none⟩ v2).setCell ⟨g', 3, none⟩ v3).setCell ⟨g', 4, none⟩ v4).setCell ⟨g', 5, none⟩ v5).setCell ⟨g', 6, none⟩ v6).setCell ⟨g', 7, none⟩ v7).setCell ⟨g', 8, none⟩ v8) :=
  ((((((((h.put (p := ⟨g', 0, none⟩) hp v0).put (p := ⟨g', 1, none⟩) hp v1).put (p := ⟨g', 2, none⟩) hp v2).put (p := ⟨g', 3, none⟩) hp v3).put (p := ⟨g', 4, none⟩) hp v4).put (p := ⟨g', 5, none⟩) hp v5).put (p := ⟨g', 6, none⟩) hp v6).put (p := ⟨g', 7, none⟩) hp v7).put (p := ⟨g', 8, none⟩) hp v8
abbrev Sm9 (w : World) (g : Nat) (cs : Array Value) : Prop := Blk w g 26 cs

theorem longer (n : ByteArray) : (n.toList == (n ++ ⟨#[120]⟩ : ByteArray).toList) = false := by
  cases h : (n.toList == (n ++ ⟨#[120]⟩ : ByteArray).toList)
  · rfl
  · have h1 := congrArg List.length (eq_of_beq h)
    rw [Lib.toList_data, Lib.toList_data, ByteArray.data_append] at h1
    simp at h1

set_option maxHeartbeats 4000000 in
theorem hidden_walk (rn rv : ByteArray) (ro rw rd : Bool) (rk ri ra rs : Int) (dn dv : ByteArray) (do_ dw dd : Bool) (dk di da ds : Int) (ver : Bool) (hn : dn.size ≤ 140737488351232) (w : World) :
    Calls Try.prog 5 #[.agg #[.string rn, .string rv, .bool ro, .int .i64 rk, .bool rw, .int .i64 ri, .bool rd, .int .i64 ra, .int .i64 rs], .agg #[.string dn, .string dv, .bool do_, .int .i64 dk, .bool dw, .int .i64 di, .bool dd, .int .i64 da, .int .i64 ds], .bool ver] w fun e w' => e = .returned (.bool true) ∧ Below w.heap.size w w' := by
  have A1 := Lib.hid awake_any
  have c1 := fun w : World => match_any dn rv ro (!rw) rd 2 ri ra rs dn dv do_ dw dd dk 2 da ds ver w
  rw [show seenS dd 2 = false by cases dd <;> rfl, show matchS dn rv dn dv do_ false ver = false from rfl] at c1
  have c2 := fun w : World => match_any dn rv ro (!rw) rd 2 ri ra rs dn dv do_ dw false dk di da ds ver w
  rw [show seenS false di = false from rfl, show matchS dn rv dn dv do_ false ver = false from rfl] at c2
  have c3 := fun w : World => match_any dn rv ro (!rw) rd 2 ri ra rs (dn ++ ⟨#[120]⟩) dv do_ dw dd dk di da ds ver w
  rw [show matchS dn rv (dn ++ ⟨#[120]⟩) dv do_ (seenS dd di) ver = false by unfold matchS; rw [longer, Bool.and_false, Bool.false_and]] at c3
  have c4 := fun w : World => match_any dn rv ro (!rw) rd 2 ri ra rs dn dv do_ dw dd dk di da ds ver w
  have c5 := fun w : World => match_any dn rv false false false 0 0 0 0 dn dv do_ dw dd dk di da ds ver w
  generalize matchS dn rv dn dv do_ (seenS dd di) ver = m at c4 c5
  have C1 := Lib.hid c1; clear c1
  have C2 := Lib.hid c2; clear c2
  have C3 := Lib.hid c3; clear c3
  have C4 := Lib.hid c4; clear c4
  have C5 := Lib.hid c5; clear c5
  have z1 : (⟨#[120]⟩ : ByteArray).size = 1 := rfl
  go_enter Try.func5, Try.ntmps5
  go_wp2_with fail
  refine (A1.out _).mono ?_
  rintro e w1 ⟨rfl, hb1⟩
  have dr := row_new hb1
  have rr := row_box (g := w.heap.size) hb1 (fun k => World.cell?_alloc_at _ _ _ _ rfl) (by simp)
  simp only [World.size_alloc] at dr
  have l2 : w.heap.size + 1 < w1.heap.size := by have := hb1.size; simp at this; omega
  have l1 : w.heap.size < w1.heap.size := by omega
  have hbel1 : Below w.heap.size w w1 := (((Below.refl _ _).alloc (Nat.le_refl _) _).alloc (by simp) _).trans (hb1.mono (by simp; omega))
  clear hb1
  have R : Two w.heap.size _ (w.heap.size + 1) _ w1 w1 := ⟨dr, rr, Nat.le_refl _, l2, l1, Below.refl _ _⟩
  clear dr rr
  go_wp2_with fail
  go_cut [8, 9, 10] (fun t8 t9 t10 wx => ∃ x y z, t8 = .pointer (some ⟨x, 0, none⟩) ∧ t9 = .pointer (some ⟨y, 0, none⟩) ∧ t10 = .pointer (some ⟨z, 0, none⟩) ∧ w1.heap.size ≤ x ∧ w1.heap.size ≤ y ∧ w1.heap.size ≤ z ∧ x ≠ y ∧ x ≠ z ∧ y ≠ z ∧
    Sm9 wx x #[.string dn, .string dv, .bool do_, .int .i64 dk, .bool dw, .int .i64 di, .bool dd, .int .i64 da, .int .i64 ds] ∧ Sm9 wx y #[.string dn, .string dv, .bool do_, .int .i64 dk, .bool dw, .int .i64 di, .bool dd, .int .i64 da, .int .i64 ds] ∧ Sm9 wx z #[.string dn, .string dv, .bool do_, .int .i64 dk, .bool dw, .int .i64 di, .bool dd, .int .i64 da, .int .i64 ds] ∧
    Two w.heap.size #[.string rn, .string rv, .bool ro, .int .i64 rk, .bool rw, .int .i64 ri, .bool rd, .int .i64 ra, .int .i64 rs] (w.heap.size + 1) #[.string dn, .string dv, .bool do_, .int .i64 dk, .bool dw, .int .i64 di, .bool dd, .int .i64 da, .int .i64 ds] w1 wx)
  case first =>
    go_region_held3 (fun w' => (∀ k_ : Nat, w'.cell? ⟨w.heap.size + 1, k_, none⟩ = (#[.string dn, .string dv, .bool do_, .int .i64 dk, .bool dw, .int .i64 di, .bool dd, .int .i64 da, .int .i64 ds] : Array Value)[k_]?) ∧ (∀ k_ : Nat, w'.cell? ⟨w.heap.size, k_, none⟩ = (#[.string rn, .string rv, .bool ro, .int .i64 rk, .bool rw, .int .i64 ri, .bool rd, .int .i64 ra, .int .i64 rs] : Array Value)[k_]?) ∧ w1.heap.size ≤ w'.heap.size ∧ w.heap.size + 1 < w1.heap.size ∧ w.heap.size < w1.heap.size ∧ Below w1.heap.size w1 w')
      (with_reducible (repeat' (first | exact R | (refine Two.drew ?_) | (refine Two.alloc ?_ _) | (refine Two.put9 ?_ ?_ _ _ _ _ _ _ _ _ _) | exact Nat.le_refl _ | exact Nat.le_succ _ | exact Nat.le_succ_of_le (Nat.le_succ _) | fail "no row")))
      (skip)
    all_goals (go_wp2_with fail; go_meet; refine ⟨_, _, _, rfl, rfl, rfl, ?_, ?_, ?_, ?_, ?_, ?_, ?_, ?_, ?_, ?_⟩)
    all_goals first
      | omega
      | (with_reducible exact (Blk.three0 _ _ _ _ _).drew)
      | (with_reducible exact (Blk.three1 _ _ _ _ _).drew)
      | (with_reducible exact (Blk.three2 _ _ _ _ _).drew)
      | exact (((R.alloc _).alloc _).alloc _).drew
  case rest =>
    obtain ⟨x, y, z, rfl, rfl, rfl, hx, hy, hz, hxy, hxz, hyz, bx, by_, bz, hR⟩ := hcut
    clear R
    have cD := hR.1
    have cR := hR.2.1
    have fx := bx.free
    have fy := by_.free
    have fz := bz.free
    have cx := bx.cell
    have cy := by_.cell
    have cz := bz.cell
    have hyx : ¬ y = x := fun h => hxy h.symm
    have hzx : ¬ z = x := fun h => hxz h.symm
    have hzy : ¬ z = y := fun h => hyz h.symm
    have d1 : ¬ w.heap.size = x := by omega
    have d2 : ¬ w.heap.size = y := by omega
    have d3 : ¬ w.heap.size = z := by omega
    have d4 : ¬ w.heap.size + 1 = x := by omega
    have d5 : ¬ w.heap.size + 1 = y := by omega
    have d6 : ¬ w.heap.size + 1 = z := by omega
    have lx := bx.lt
    have ly := by_.lt
    have lz := bz.lt
    have lR : w.heap.size < wc.heap.size := by omega
    have lD : w.heap.size + 1 < wc.heap.size := by omega
    have gR := hR.2.2.2.2.2
    go_wp2_with fail
    have wx : Sm9 ((((wc.setCell ⟨x, 5, none⟩ (.int .i64 2)).setCell ⟨y, 6, none⟩ (.bool false)).setCell ⟨z, 0, none⟩ (.string (dn ++ ⟨#[120]⟩))).alloc (.cells #[.string dn, .string rv, .bool ro, .int .i64 2, .bool (!rw), .int .i64 ri, .bool rd, .int .i64 ra, .int .i64 rs] 26)) x #[.string dn, .string dv, .bool do_, .int .i64 dk, .bool dw, .int .i64 2, .bool dd, .int .i64 da, .int .i64 ds] := (((bx.set 5 _).other hxy _).other hxz _).alloc _
    have wy : Sm9 ((((wc.setCell ⟨x, 5, none⟩ (.int .i64 2)).setCell ⟨y, 6, none⟩ (.bool false)).setCell ⟨z, 0, none⟩ (.string (dn ++ ⟨#[120]⟩))).alloc (.cells #[.string dn, .string rv, .bool ro, .int .i64 2, .bool (!rw), .int .i64 ri, .bool rd, .int .i64 ra, .int .i64 rs] 26)) y #[.string dn, .string dv, .bool do_, .int .i64 dk, .bool dw, .int .i64 di, .bool false, .int .i64 da, .int .i64 ds] := (((by_.other hyx _).set 6 _).other hyz _).alloc _
    have wz : Sm9 ((((wc.setCell ⟨x, 5, none⟩ (.int .i64 2)).setCell ⟨y, 6, none⟩ (.bool false)).setCell ⟨z, 0, none⟩ (.string (dn ++ ⟨#[120]⟩))).alloc (.cells #[.string dn, .string rv, .bool ro, .int .i64 2, .bool (!rw), .int .i64 ri, .bool rd, .int .i64 ra, .int .i64 rs] 26)) z #[.string (dn ++ ⟨#[120]⟩), .string dv, .bool do_, .int .i64 dk, .bool dw, .int .i64 di, .bool dd, .int .i64 da, .int .i64 ds] := (((bz.other hzx _).other hzy _).set 0 _).alloc _
    have ww : Sm9 ((((wc.setCell ⟨x, 5, none⟩ (.int .i64 2)).setCell ⟨y, 6, none⟩ (.bool false)).setCell ⟨z, 0, none⟩ (.string (dn ++ ⟨#[120]⟩))).alloc (.cells #[.string dn, .string rv, .bool ro, .int .i64 2, .bool (!rw), .int .i64 ri, .bool rd, .int .i64 ra, .int .i64 rs] 26)) wc.heap.size #[.string dn, .string rv, .bool ro, .int .i64 2, .bool (!rw), .int .i64 ri, .bool rd, .int .i64 ra, .int .i64 rs] := Blk.at_ (by simp [World.setCell])
    have hT : Two w.heap.size #[.string rn, .string rv, .bool ro, .int .i64 rk, .bool rw, .int .i64 ri, .bool rd, .int .i64 ra, .int .i64 rs] (w.heap.size + 1) #[.string dn, .string dv, .bool do_, .int .i64 dk, .bool dw, .int .i64 di, .bool dd, .int .i64 da, .int .i64 ds] w1 ((((wc.setCell ⟨x, 5, none⟩ (.int .i64 2)).setCell ⟨y, 6, none⟩ (.bool false)).setCell ⟨z, 0, none⟩ (.string (dn ++ ⟨#[120]⟩))).alloc (.cells #[.string dn, .string rv, .bool ro, .int .i64 2, .bool (!rw), .int .i64 ri, .bool rd, .int .i64 ra, .int .i64 rs] 26)) := (((hR.put (p := ⟨x, 5, none⟩) hx _).put (p := ⟨y, 6, none⟩) hy _).put (p := ⟨z, 0, none⟩) hz _).alloc _
    generalize ((((wc.setCell ⟨x, 5, none⟩ (.int .i64 2)).setCell ⟨y, 6, none⟩ (.bool false)).setCell ⟨z, 0, none⟩ (.string (dn ++ ⟨#[120]⟩))).alloc (.cells #[.string dn, .string rv, .bool ro, .int .i64 2, .bool (!rw), .int .i64 ri, .bool rd, .int .i64 ra, .int .i64 rs] 26)) = w5 at wx wy wz ww hT ⊢
    have k1 : ∀ (q : Calm w5) (k_ : Nat), q.now.cell? ⟨x, k_, none⟩ = (#[.string dn, .string dv, .bool do_, .int .i64 dk, .bool dw, .int .i64 2, .bool dd, .int .i64 da, .int .i64 ds] : Array Value)[k_]? := fun q k_ => (q.cell _ _ wx.lt).trans (wx.cell k_)
    have k2 : ∀ (q : Calm w5) (k_ : Nat), q.now.cell? ⟨y, k_, none⟩ = (#[.string dn, .string dv, .bool do_, .int .i64 dk, .bool dw, .int .i64 di, .bool false, .int .i64 da, .int .i64 ds] : Array Value)[k_]? := fun q k_ => (q.cell _ _ wy.lt).trans (wy.cell k_)
    have k3 : ∀ (q : Calm w5) (k_ : Nat), q.now.cell? ⟨z, k_, none⟩ = (#[.string (dn ++ ⟨#[120]⟩), .string dv, .bool do_, .int .i64 dk, .bool dw, .int .i64 di, .bool dd, .int .i64 da, .int .i64 ds] : Array Value)[k_]? := fun q k_ => (q.cell _ _ wz.lt).trans (wz.cell k_)
    have k4 : ∀ (q : Calm w5) (k_ : Nat), q.now.cell? ⟨wc.heap.size, k_, none⟩ = (#[.string dn, .string rv, .bool ro, .int .i64 2, .bool (!rw), .int .i64 ri, .bool rd, .int .i64 ra, .int .i64 rs] : Array Value)[k_]? := fun q k_ => (q.cell _ _ ww.lt).trans (ww.cell k_)
    have k5 : ∀ (q : Calm w5) (k_ : Nat), q.now.cell? ⟨w.heap.size, k_, none⟩ = (#[.string rn, .string rv, .bool ro, .int .i64 rk, .bool rw, .int .i64 ri, .bool rd, .int .i64 ra, .int .i64 rs] : Array Value)[k_]? := fun q k_ => (q.cell _ _ (Nat.lt_of_lt_of_le hT.2.2.2.2.1 hT.2.2.1)).trans (hT.2.1 k_)
    have k6 : ∀ (q : Calm w5) (k_ : Nat), q.now.cell? ⟨w.heap.size + 1, k_, none⟩ = (#[.string dn, .string dv, .bool do_, .int .i64 dk, .bool dw, .int .i64 di, .bool dd, .int .i64 da, .int .i64 ds] : Array Value)[k_]? := fun q k_ => (q.cell _ _ (Nat.lt_of_lt_of_le hT.2.2.2.1 hT.2.2.1)).trans (hT.1 k_)
    have HB := Lib.hid (hbel1.trans (hT.2.2.2.2.2.mono hbel1.size))
    clear wx wy wz ww hT hR bx by_ bz gR hbel1 lx ly lz lR lD l1 l2 hx hy hz cD cR cx cy cz fx fy fz hxy hxz hyz hyx hzx hzy d1 d2 d3 d4 d5 d6 A1
    refine wp_region_calm (by kernel_rfl) (by kernel_rfl) ?_
    repeat (first
      | go_big_quiet_skip
      | (go_big_quiet_want
         go_big_quiet_op
         first
           | go_big_quiet_on
           | (apply Exists.intro
              refine ⟨fun _ => ?_, ?_⟩
              · first
                  | (go_at_call 15; with_reducible exact calm_call (C1.out _))
                  | (go_at_call 15; with_reducible exact calm_call (C2.out _))
                  | (go_at_call 15; with_reducible exact calm_call (C3.out _))
                  | (go_at_call 15; with_reducible exact calm_call (C4.out _))
                  | (go_at_call 15; with_reducible exact calm_call (C5.out _))
              go_big_quiet_on)))
    refine wpQuiet_nil ?_
    intro _ hw'
    obtain ⟨⟨w7, hb7⟩, rfl⟩ := hw'
    go_wp2
    go_ret
    exact ⟨by simp, HB.out.trans (hb7.mono HB.out.size)⟩
end Go.Proofs.Ythajdklmklaelaa
