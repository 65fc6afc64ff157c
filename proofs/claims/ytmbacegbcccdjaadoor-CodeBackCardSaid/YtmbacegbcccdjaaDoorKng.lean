/-
  Layer 4: the program's Encode: what it computes.
  Conditions: none. (My own text.)
-/
import Derived.Test.YtmbacegbcccdjaaDoorKne
import Derived.Test.YtmbacegbcccdjaaDoorCby
import Derived.Deep.Onto
import Derived.Laws.OwnMore
import Derived.Deep.AppendLies
namespace Go.Proofs.YtmbacegbcccdjaaDoor
open Go.RowKit Spm
set_option linter.unusedVariables false
set_option linter.unusedSimpArgs false

open Go.Lib hiding intOf
attribute [local irreducible] wpList
/-- The bytes of some instructions. -/
def encodeS (is : List Ins) : Option (List UInt8) := if is.all mayS = true then some (is.flatMap encS) else none
def EncE (o : Option (List UInt8)) (w : World) (e : Ending) (w' : World) : Prop := (match o with
  | some l => ∃ v, e = .returned (.tuple #[v, .int .i64 0]) ∧ w'.ownsRow w.heap.size 5 1 v l.length (l.map byC)
  | none => e = .returned (.tuple #[.slice none 0 0, .int .i64 40])) ∧ Below w.heap.size w w'
theorem encS_len (i : Ins) : (encS i).length = 8 := rfl
theorem encs_len (is : List Ins) : (is.flatMap encS).length = 8 * is.length := by
  induction is with
  | nil => rfl
  | cons i l ih => rw [List.flatMap_cons, List.length_append, ih, encS_len, List.length_cons]; omega
set_option maxRecDepth 100000 in
theorem u8_info : (Tryd.prog.info? 5).map (fun i => (i.zero, i.size, i.bytes)) = some (some (.int .u8 0), 1, 1) := by kernel_rfl
set_option maxRecDepth 100000 in
set_option maxHeartbeats 4000000 in
theorem encode_any (is : List Ins) (hn : is.length ≤ 4398046511104) (v : Value) (w : World) (hR : RowsAt 5 Ins.cells w (fun k => k < w.heap.size) v is) : Calls Tryd.prog 19 #[v] w (EncE (encodeS is) w) := by
  obtain ⟨A, c, rfl, hlc, hcm, hrow⟩ := hR
  have HR := Lib.hid hrow
  clear hrow hlc hcm
  obtain ⟨i0, hi, hz0, hz1, hz2⟩ := info_parts u8_info
  have HI := Lib.hid (And.intro hi (And.intro hz0 (And.intro hz1 hz2)))
  clear hi hz0 hz1 hz2
  have HN := Lib.hid hn
  clear hn
  go_enter Tryd.func19, Tryd.ntmps19
  go_wp2_with fail
  go_loopw [4, 11] (fun v t wr => ∃ (k : Nat), k ≤ is.length ∧ t = .int .i64 k ∧ Hid ((is.take k).all mayS = true) ∧ Hid (wr.ownsRow w.heap.size 5 1 v ((is.take k).flatMap encS).length (((is.take k).flatMap encS).map byC)) ∧ Hid (Below w.heap.size w wr)) (fun _ t _ => is.length - (intOf t).toNat)
  case atStart => exact ⟨0, Nat.zero_le _, rfl, Lib.hid (by simp), Lib.hid (World.ownsRow_nil _ _ _ _), Lib.hid (Below.refl _ _)⟩
  case round =>
    obtain ⟨k, hk, rfl, HAL, HOW, HB⟩ := hrel
    obtain ⟨w3, hw3⟩ : ∃ w3, w3 = wr := ⟨_, rfl⟩
    rw [← hw3] at HOW HB ⊢
    clear hw3
    by_cases hkn : k < is.length
    · obtain ⟨i, hik⟩ : ∃ i, is[k]? = some i := ⟨_, List.getElem?_eq_getElem hkn⟩
      obtain ⟨bb, off, rfl, -, hbl, hcell⟩ := HR.out k i hik
      have cel : ∀ j v, (inA i).toList[j]? = some v → w3.cell? ⟨bb, off + k * 5 + j, none⟩ = some v := fun j v hv => (HB.out.cell (p := ⟨bb, off + k * 5 + j, none⟩) hbl).trans (hcell j v hv)
      have HIK := Lib.hid hik
      have HCM := Lib.hid (fun w => may_any i w)
      have HMI := Lib.hid (fun h : mayS i = true => may_rng h)
      have hTK : is.take (k + 1) = is.take k ++ [i] := by rw [List.take_add_one, HIK.out]; rfl
      have HTK := Lib.hid hTK
      clear hik hcell hbl hTK
      obtain ⟨M, hM⟩ : ∃ M, M = mayS i := ⟨_, rfl⟩
      have HM := Lib.hid hM
      have HCI : Hid (inA i = #[.int .i64 i.op, .int .i64 i.a, .int .i64 i.b, .int .i64 i.c, .int .i64 i.n]) := Lib.hid rfl
      have HVI : Hid (i.val = .agg (inA i)) := Lib.hid rfl
      have N0 := Lib.hid ((Has.start (Below.refl w3.heap.size w3) (Nat.le_refl _)).newcel 39 #[.int .i64 0, .int .i64 0, .int .i64 0, .int .i64 0, .int .i64 0])
      have N1 := Lib.hid (N0.out.rowc w3.heap.size (inA i))
      go_upto_region 5 with (first | (refine wpList_partW (by kernel_rfl) 39 _ rfl bb (off + k * 5) rfl (inA i) _ cel Tryd.underlying39 rfl (by kernel_rfl) ?_) | (refine wpList_store_row rfl 39 _ _ rfl w3.heap.size (inA i) rfl rfl 39 #[.int .i64 0, .int .i64 0, .int .i64 0, .int .i64 0, .int .i64 0] (N0.out.getc w3.heap.size) (by kernel_rfl) rfl (by kernel_rfl) ?_))
      obtain ⟨w5, hW⟩ : ∃ w5, (w3.alloc (.cells #[.int .i64 0, .int .i64 0, .int .i64 0, .int .i64 0, .int .i64 0] 39)).setRow w3.heap.size (inA i) = w5 := ⟨_, rfl⟩
      have N5 := N1
      rw [hW] at N5 ⊢
      clear hW N0 N1 cel
      have hlt4 := HOW.out.lt
      have B5 : Hid (Below w.heap.size w w5) := Lib.hid (HB.out.trans (N5.out.bel.mono HB.out.size))
      have O5 := Lib.hid (owns_block HOW.out (fun g hg => N5.out.bel.block g (hlt4 g hg).2))
      clear hlt4 HB HOW
      generalize w3.heap.size = x at N5 ⊢
      have HC2 : Hid (Calls Tryd.prog 23 #[.agg (inA i)] w5 fun e w' => e = .returned (.int .i64 (if mayS i = true then 0 else 40)) ∧ Below w5.heap.size w5 w') := HCM |>.out w5 |> Lib.hid
      go_wp2_with (first | (refine wpList_rowW (by kernel_rfl) 39 _ rfl x rfl (inA i) _ (N5.out.getc x) Tryd.underlying39 rfl (by kernel_rfl) ?_))
      refine (HC2.out).mono ?_
      rintro e w6 ⟨rfl, hb6⟩
      have M6 := Lib.hid (N5.out.stay hb6)
      have hlt5 := O5.out.lt
      have B6 : Hid (Below w.heap.size w w6) := Lib.hid (B5.out.trans (hb6.mono B5.out.size))
      have O6 := Lib.hid (owns_block O5.out (fun g hg => hb6.block g (hlt5 g hg).2))
      clear hb6 hlt5 O5 B5 N5 HC2
      by_cases hm : mayS i = true
      · rw [if_pos hm]
        have HAL2 : Hid ((is.take (k + 1)).all mayS = true) := Lib.hid (by rw [HTK.out, List.all_append, HAL.out]; simp [hm])
        obtain ⟨⟨o1, o2⟩, ⟨a1, a2⟩, ⟨b1, b2⟩, ⟨c1, c2⟩, n1, n2⟩ := may_rng hm
        obtain ⟨q1, q2⟩ := unN_rng n1 n2
        have x0 : w6.cell? ⟨x, 0, none⟩ = some (.int .i64 i.op) := M6.out.cellat x 0 rfl
        have x1 : w6.cell? ⟨x, 1, none⟩ = some (.int .i64 i.a) := M6.out.cellat x 1 rfl
        have x2 : w6.cell? ⟨x, 2, none⟩ = some (.int .i64 i.b) := M6.out.cellat x 2 rfl
        have x3 : w6.cell? ⟨x, 3, none⟩ = some (.int .i64 i.c) := M6.out.cellat x 3 rfl
        have x4 : w6.cell? ⟨x, 4, none⟩ = some (.int .i64 i.n) := M6.out.cellat x 4 rfl
        have hu : i.n % 4294967296 = unN i.n := by unfold unN; split <;> omega
        have o3 : i.op % 256 = i.op := by omega
        have a3 : i.a % 256 = i.a := by omega
        have b3 : i.b % 256 = i.b := by omega
        have c3 : i.c % 256 = i.c := by omega
        have HNW : Hid ([.int .u8 i.op, .int .u8 i.a, .int .u8 i.b, .int .u8 i.c, .int .u8 (unN i.n % 256), .int .u8 (unN i.n / 256 % 256), .int .u8 (unN i.n / 65536 % 256), .int .u8 (unN i.n / 16777216)] = (encS i).map byC) := Lib.hid (by
          unfold encS
          simp only [List.map_cons, List.map_nil]
          rw [encB_byC (x := i.op) (by omega) (by omega), encB_byC (x := i.a) (by omega) (by omega), encB_byC (x := i.b) (by omega) (by omega), encB_byC (x := i.c) (by omega) (by omega), encB_byC (x := unN i.n % 256) (by omega) (by omega), encB_byC (x := unN i.n / 256 % 256) (by omega) (by omega), encB_byC (x := unN i.n / 65536 % 256) (by omega) (by omega), encB_byC (x := unN i.n / 16777216) (by omega) (by omega)])
        have HLN : Hid (((is.take k).flatMap encS).length = 8 * k) := Lib.hid (by rw [encs_len, List.length_take]; omega)
        have HTF : Hid ((is.take (k + 1)).flatMap encS = (is.take k).flatMap encS ++ encS i) := Lib.hid (by rw [HTK.out, List.flatMap_append]; simp)
        obtain ⟨PB, hPB⟩ : ∃ PB, (is.take k).flatMap encS = PB := ⟨_, rfl⟩
        rw [hPB] at O6 HLN HTF
        clear hm hM HAL HM hPB
        go_upto_region 9 with fail
        go_wp2_with (at_builtin; refine wpList_append_own _ rfl _ _ 31 rfl w.heap.size 5 i0 (.int .u8 0) 1 1 Tryd.underlying31 HI.out.1 HI.out.2.1 HI.out.2.2.1 HI.out.2.2.2 rfl (by decide) _ PB.length _ rfl (O6.out.alloc _) ⟨w6.heap.size, 0, none⟩ 8 8 [.int .u8 i.op, .int .u8 i.a, .int .u8 i.b, .int .u8 i.c, .int .u8 (unN i.n % 256), .int .u8 (unN i.n / 256 % 256), .int .u8 (unN i.n / 65536 % 256), .int .u8 (unN i.n / 16777216)] rfl ?c1 ?c2 ?c3 ?c4 ?c5 ?c6 ?_)
        case c1 => rfl
        case c2 => exact World.news_of_block (heap_alloc_new _ _)
        case c3 => (intro u hu; simp only [List.mem_cons, List.not_mem_nil, or_false] at hu; rcases hu with rfl | rfl | rfl | rfl | rfl | rfl | rfl | rfl <;> rfl)
        case c4 => unfold maxLen; have := HLN.out; have := HN.out; omega
        case c5 => have := HLN.out; have := HN.out; omega
        case c6 => have := B6.out.size; simp; omega
        intro v' w7 hown1 hgrow _
        have hlt1 := O6.out.lt
        have H5 : Hid (w7.ownsRow w.heap.size 5 1 v' ((is.take (k + 1)).flatMap encS).length (((is.take (k + 1)).flatMap encS).map byC)) := Lib.hid (by
          rw [HTF.out, List.map_append, List.length_append, ← HNW.out, encS_len]
          exact hown1)
        have H6 : Hid (Below w.heap.size w w7) := Lib.hid ((B6.out.alloc B6.out.size _).grown hgrow (by have := B6.out.size; simp; omega) (fun j hj => (hlt1 j hj).1))
        clear hown1 hgrow hlt1 O6 B6 M6 x0 x1 x2 x3 x4 hu o1 o2 o3 a1 a2 a3 b1 b2 b3 c1 c2 c3 n1 n2 q1 q2
        have hkb : (k : Int) + 1 ≤ 4398046511105 := by have := HN.out; omega
        go_wp2_with fail
        first
          | (go_roundw
             case rel => exact ⟨k + 1, by omega, by go_num, HAL2, H5, H6⟩
             case measure => simp [intOf]; omega)
          | (refine ⟨?_, ?_⟩
             · (repeat apply Exists.intro)
               refine ⟨?_, rfl⟩
               exact ⟨k + 1, by omega, by go_num, HAL2, H5, H6⟩
             · simp [intOf]; omega)
      · rw [if_neg hm]
        have HE : Hid (encodeS is = none) := Lib.hid (by
          unfold encodeS
          rw [if_neg]
          intro h
          exact hm (List.all_eq_true.1 h i (List.mem_of_getElem? HIK.out)))
        clear hm hM HM
        go_wp2_with fail
        go_ret2
        exact ⟨by rw [HE.out]; rfl, B6.out⟩
    · have hke : k = is.length := by omega
      have HE : Hid (encodeS is = some (is.flatMap encS)) := Lib.hid (by
        have e1 := HAL.out
        rw [hke, List.take_length] at e1
        unfold encodeS
        rw [if_pos e1])
      have HO2 := HOW.out
      rw [hke, List.take_length] at HO2
      have HO3 := Lib.hid HO2
      clear HO2 HOW hke
      go_wp2_with fail
      go_ret2
      exact ⟨by rw [HE.out]; exact ⟨_, rfl, HO3.out⟩, HB.out⟩
end Go.Proofs.YtmbacegbcccdjaaDoor
