/-
  Layer 4: the law CodeOne: one byte changed.
  Conditions: none. (My own text.)
-/
import Derived.Test.YtmbacegbcccdjaaDoorKnh
import Derived.Test.YtmbacegbcccdjaaDoorCde
namespace Go.Proofs.YtmbacegbcccdjaaDoor
open Go.RowKit Spm
set_option linter.unusedVariables false
set_option linter.unusedSimpArgs false

open Go.Lib hiding intOf
attribute [local irreducible] wpList
theorem i32_inj {x y : Int} (hx0 : 0 ≤ x) (hx : x < 4294967296) (hy0 : 0 ≤ y) (hy : y < 4294967296) (h : i32S x = i32S y) : x = y := by
  unfold i32S at h
  split at h <;> split at h <;> omega
/-- Two times eight bytes that are the same instruction are the same bytes. -/
theorem insK_inj {b b' : List UInt8} (h : insK b 0 = insK b' 0) (j : Nat) (hj : j < 8) : byI b j = byI b' j := by
  unfold insK at h
  simp only [Ins.mk.injEq, Nat.mul_zero, Nat.zero_add] at h
  obtain ⟨h0, h1, h2, h3, h4⟩ := h
  have r4 := byI_rng b 4
  have r5 := byI_rng b 5
  have r6 := byI_rng b 6
  have r7 := byI_rng b 7
  have s4 := byI_rng b' 4
  have s5 := byI_rng b' 5
  have s6 := byI_rng b' 6
  have s7 := byI_rng b' 7
  have e := i32_inj (by omega) (by omega) (by omega) (by omega) h4
  obtain rfl | rfl | rfl | rfl | rfl | rfl | rfl | rfl : j = 0 ∨ j = 1 ∨ j = 2 ∨ j = 3 ∨ j = 4 ∨ j = 5 ∨ j = 6 ∨ j = 7 := by omega
  all_goals omega
theorem encB_I {x : Int} (h0 : 0 ≤ x) (h1 : x < 256) : ((encB x).toNat : Int) = x := by
  have := encB_byC h0 h1
  unfold byC at this
  simpa using this
/-- The instruction of an instruction's bytes. -/
theorem insK_enc {i : Ins} (h : mayS i = true) : insK (encS i) 0 = i := by
  obtain ⟨⟨o1, o2⟩, ⟨a1, a2⟩, ⟨b1, b2⟩, ⟨c1, c2⟩, n1, n2⟩ := may_rng h
  obtain ⟨u1, u2⟩ := unN_rng n1 n2
  obtain ⟨op, a, b, c, n⟩ := i
  simp only at o1 o2 a1 a2 b1 b2 c1 c2 n1 n2 u1 u2
  unfold insK byI encS
  simp only [Nat.mul_zero, Nat.zero_add, List.getD_cons_zero, List.getD_cons_succ]
  rw [encB_I (x := op) (by omega) (by omega), encB_I (x := a) (by omega) (by omega), encB_I (x := b) (by omega) (by omega), encB_I (x := c) (by omega) (by omega), encB_I (x := unN n % 256) (by omega) (by omega), encB_I (x := unN n / 256 % 256) (by omega) (by omega), encB_I (x := unN n / 65536 % 256) (by omega) (by omega), encB_I (x := unN n / 16777216) (by omega) (by omega)]
  have e : unN n % 256 + 256 * (unN n / 256 % 256) + 65536 * (unN n / 65536 % 256) + 16777216 * (unN n / 16777216) = unN n := by omega
  rw [e]
  have e2 : i32S (unN n) = n := by unfold i32S unN; split <;> split <;> omega
  rw [e2]
/-- The bytes with one changed are no longer this instruction. -/
theorem one_off {i : Ins} (h : mayS i = true) (K : Nat) (hK : K < 8) (z : UInt8) (hz : (encS i)[K]? ≠ some z) : insK ((encS i).set K z) 0 ≠ i := fun e => by
  have e1 := insK_inj (e.trans (insK_enc h).symm) K hK
  have hl : K < (encS i).length := hK
  unfold byI at e1
  rw [List.getD_eq_getElem?_getD, List.getD_eq_getElem?_getD, List.getElem?_set_self hl] at e1
  refine hz ?_
  rw [List.getElem?_eq_getElem hl] at e1 ⊢
  simp only [Option.getD_some] at e1
  have : z.toNat = ((encS i)[K]).toNat := by omega
  rw [UInt8.toNat_inj.1 this]
theorem xor_ne {x y : UInt8} (h : y ≠ 0) : x ^^^ y ≠ x := fun e => h (by
  have e2 : x ^^^ (x ^^^ y) = x ^^^ x := by rw [e]
  rw [← UInt8.xor_assoc, UInt8.xor_self, UInt8.zero_xor] at e2
  exact e2)
theorem xor8 (y b : UInt8) : bits .xor .u8 (y.toNat : Int) (b.toNat : Int) = ((y ^^^ b).toNat : Int) := by
  show IntKind.u8.wrap (((BitVec.ofInt 8 (y.toNat : Int) ^^^ BitVec.ofInt 8 (b.toNat : Int)).toNat : Nat) : Int) = _
  rw [BitVec.ofInt_natCast, BitVec.ofInt_natCast, BitVec.toNat_xor, BitVec.toNat_ofNat, BitVec.toNat_ofNat, Nat.mod_eq_of_lt y.toNat_lt, Nat.mod_eq_of_lt b.toNat_lt, ← UInt8.toNat_xor]
  have h : (y ^^^ b).toNat < 256 := (y ^^^ b).toNat_lt
  generalize (y ^^^ b).toNat = k at h ⊢
  simp only [IntKind.wrap, IntKind.bits, IntKind.signed]
  simp
  try omega
set_option maxRecDepth 100000 in
set_option maxHeartbeats 4000000 in
theorem one_any (i : Ins) (a b : UInt8) (w : World) (hL : LaidW w) : Calls Tryd.prog 6 #[i.val, .int .u8 a.toNat, .int .u8 b.toNat] w fun e w' => e = .returned (.bool true) ∧ Below w.heap.size w w' := by
  have HL := Lib.hid (fun (X : World) (hb : Below w.heap.size w X) => hL.below hb)
  clear hL
  rw [show i.val = .agg #[.int .i64 i.op, .int .i64 i.a, .int .i64 i.b, .int .i64 i.c, .int .i64 i.n] from rfl]
  have M0 := Lib.hid ((Has.start (Below.refl w.heap.size w) (Nat.le_refl _)).newcel 39 #[.int .i64 i.op, .int .i64 i.a, .int .i64 i.b, .int .i64 i.c, .int .i64 i.n])
  go_enter Tryd.func6, Tryd.ntmps6
  go_upto_region 1 with (fail)
  obtain ⟨W, hW⟩ : ∃ W, (w.alloc (.cells #[.int .i64 i.op, .int .i64 i.a, .int .i64 i.b, .int .i64 i.c, .int .i64 i.n] 39)) = W := ⟨_, rfl⟩
  rw [hW] at M0 ⊢
  clear hW
  generalize hB : w.heap.size = r at M0 HL ⊢
  have HB := Lib.hid hB
  clear hB
  have C1 := Lib.hid (awake04 W (HL.out W M0.out.bel))
  go_wp2_with fail
  refine (C1.out).mono ?_
  rintro e w2 ⟨rfl, hb2⟩
  have M2 := Lib.hid (M0.out.stay hb2)
  clear hb2 C1 M0
  have N2 := Lib.hid (M2.out.newcel 39 #[.int .i64 i.op, .int .i64 i.a, .int .i64 i.b, .int .i64 i.c, .int .i64 i.n])
  have C2 := Lib.hid (encode_any [i] (by simp) (.slice (some ⟨w2.heap.size, 0, none⟩) 1 1) (w2.alloc (.cells #[.int .i64 i.op, .int .i64 i.a, .int .i64 i.b, .int .i64 i.c, .int .i64 i.n] 39)) ⟨some ⟨w2.heap.size, 0, none⟩, 1, rfl, Nat.le_refl _, by unfold maxLen; omega, fun k x hx => ⟨w2.heap.size, 0, rfl, by simp, by simp, fun j u hu => by
    match k, hx with
    | 0, hx =>
      obtain rfl : i = x := by simpa using hx
      rw [World.cell?_alloc_at _ _ _ _ rfl]
      simpa [Ins.cells] using hu
    | k + 1, hx => simp at hx⟩⟩)
  go_wp2_with (first | (refine wpList_rowW (by kernel_rfl) 39 _ rfl r rfl #[.int .i64 i.op, .int .i64 i.a, .int .i64 i.b, .int .i64 i.c, .int .i64 i.n] _ (M2.out.getc r) Tryd.underlying39 rfl (by kernel_rfl) ?_))
  refine (C2.out).mono ?_
  rintro e w3 ⟨he, hb3⟩
  have M3 := Lib.hid (N2.out.stay hb3)
  have hle := (M2.out.getc r).lt
  have hbel3 : Hid (r < (w2.alloc (.cells #[.int .i64 i.op, .int .i64 i.a, .int .i64 i.b, .int .i64 i.c, .int .i64 i.n] 39)).heap.size) := Lib.hid (by simp; omega)
  clear C2 N2 hb3 hle
  by_cases hm : mayS i = true
  case neg =>
    have e1 : encodeS [i] = none := by unfold encodeS; rw [if_neg (by simpa using hm)]
    rw [e1] at he
    obtain rfl : e = _ := he
    have MZ := Lib.hid M3.out.bel
    clear e1 hm
    go_wp2_with fail
    go_ret
    exact ⟨rfl, by rw [HB.out]; exact MZ.out⟩
  have e1 : encodeS [i] = some (encS i) := by unfold encodeS; rw [if_pos (by simpa using hm)]; simp
  rw [e1] at he
  obtain ⟨v1, rfl, hv1⟩ := he
  have hv2 := hv1
  obtain ⟨g, c, rfl, hg1, hg2⟩ := hv1.form (by rw [encS_len]; omega)
  rw [encS_len] at *
  have HM := Lib.hid hm
  have HV := Lib.hid hv1
  clear hm e1 hv1 hv2
  by_cases hb0 : b = 0
  · subst hb0
    have MZ := Lib.hid M3.out.bel
    go_wp2_with fail
    go_ret
    exact ⟨rfl, by rw [HB.out]; exact MZ.out⟩
  have hbI : ((b.toNat : Int) == 0) = false := beq_eq_false_iff_ne.2 (fun e => hb0 (UInt8.toNat_inj.1 (by rw [show (0 : UInt8).toNat = 0 from rfl]; omega)))
  have hbI2 : ¬ ((b.toNat : Int) = 0) := fun e => hb0 (UInt8.toNat_inj.1 (by rw [show (0 : UInt8).toNat = 0 from rfl]; omega))
  have HB0 := Lib.hid hb0
  clear hb0
  obtain ⟨K, hK⟩ : ∃ K, a.toNat % 8 = K := ⟨_, rfl⟩
  have hK8 : K < 8 := by omega
  have t1 : (a.toNat : Int).tmod 8 = (K : Int) := by rw [Int.tmod_eq_emod_of_nonneg (by omega)]; omega
  have t2 : (a.toNat : Int) % 8 = (K : Int) := by omega
  have hKI : (K : Int) < 8 := by omega
  clear hK
  obtain ⟨y, hy⟩ : ∃ y, (encS i)[K]? = some y := ⟨_, List.getElem?_eq_getElem hK8⟩
  have ol : w3.cell? ⟨g, K, none⟩ = some (.int .u8 y.toNat) := by rw [HV.out.cellAt K (by omega), List.getElem?_map, hy]; rfl
  have lv : w3.frozen? ⟨g, K, none⟩ = false := HV.out.frozenAt K
  go_upto_region 8 with fail
  obtain ⟨z, hz⟩ : ∃ z, y ^^^ b = z := ⟨_, rfl⟩
  have ex : bits .xor .u8 (y.toNat : Int) (b.toNat : Int) = (z.toNat : Int) := by rw [← hz]; exact xor8 y b
  rw [ex]
  have hzy : (encS i)[K]? ≠ some z := by
    rw [hy, ← hz]
    intro e
    exact xor_ne HB0.out (Option.some.inj e).symm
  have HNE := Lib.hid (one_off HM.out K hK8 z hzy)
  have hl : ((encS i).set K z).length = 8 := by rw [List.length_set]; rfl
  have hgr : r < g := Nat.lt_of_lt_of_le hbel3.out hg1
  obtain ⟨W4, hW4⟩ : ∃ W4, w3.setCell ⟨g, K, none⟩ (.int .u8 z.toNat) = W4 := ⟨_, rfl⟩
  have hst := (HV.out.stored K (.int .u8 z.toNat)).1
  have hms : ((encS i).map byC).set K (.int .u8 z.toNat) = ((encS i).set K z).map byC := by rw [List.map_set]; rfl
  have BR : Hid (Blk W4 r 39 #[.int .i64 i.op, .int .i64 i.a, .int .i64 i.b, .int .i64 i.c, .int .i64 i.n]) := Lib.hid (by rw [← hW4]; exact (M3.out.getc r).other (p := ⟨g, K, none⟩) (by show r ≠ g; omega) _)
  have B4 : Hid (Below r w W4) := Lib.hid (by rw [← hW4]; exact M3.out.bel.setCell (p := ⟨g, K, none⟩) (Nat.le_of_lt hgr) _)
  rw [hms, hW4] at hst
  rw [hW4]
  obtain ⟨L, hL⟩ : ∃ L, (encS i).set K z = L := ⟨_, rfl⟩
  rw [hL] at hst HNE hl
  obtain ⟨A', c', he', hc1, hc2, hsrc⟩ := Bys.src' (show Bys W4 _ (.slice (some ⟨g, 0, none⟩) 8 c) L by unfold Bys; rw [hl]; exact hst)
  simp only [Value.slice.injEq] at he'
  obtain ⟨rfl, -, rfl⟩ := he'
  have C5 := Lib.hid (decode_any (some ⟨g, 0, none⟩) c L (by omega) hc1 hc2 W4 hsrc)
  rw [hl] at C5
  have HLL := Lib.hid hl
  clear hst hms hL hW4 hsrc hc1 hc2 hl ex hz hzy ol lv hy t1 t2 hgr M3 HV HB0 HM hbI hbI2 hKI
  go_wp2_with fail
  refine (C5.out).mono ?_
  rintro e w5 ⟨h5, hb5⟩
  have BR5 := Lib.hid (BR.out.keep hb5)
  have B5 : Hid (Below r w w5) := Lib.hid (B4.out.trans (hb5.mono (Nat.le_of_lt BR.out.lt)))
  clear hb5 C5 BR B4
  rcases h5 with ⟨hd, v, rfl, ho⟩ | ⟨hd, rfl⟩
  · rw [HLL.out] at ho
    have e1 : insRow L (8 / 8) = (insK L 0).cells := by unfold insRow; simp
    rw [e1] at ho
    have ho1 : w5.ownsRow W4.heap.size 39 5 v 1 (insK L 0).cells := ho
    obtain ⟨g5, c5, rfl, -, -⟩ := ho1.form (by omega)
    obtain ⟨J, hJ⟩ : ∃ J, insK L 0 = J := ⟨_, rfl⟩
    rw [hJ] at ho1 HNE
    obtain ⟨jo, ja, jb, jc, jn⟩ := J
    have y0 : w5.cell? ⟨g5, 0, none⟩ = some (.int .i64 jo) := by rw [ho1.cellAt 0 (by omega)]; rfl
    have y1 : w5.cell? ⟨g5, 1, none⟩ = some (.int .i64 ja) := by rw [ho1.cellAt 1 (by omega)]; rfl
    have y2 : w5.cell? ⟨g5, 2, none⟩ = some (.int .i64 jb) := by rw [ho1.cellAt 2 (by omega)]; rfl
    have y3 : w5.cell? ⟨g5, 3, none⟩ = some (.int .i64 jc) := by rw [ho1.cellAt 3 (by omega)]; rfl
    have y4 : w5.cell? ⟨g5, 4, none⟩ = some (.int .i64 jn) := by rw [ho1.cellAt 4 (by omega)]; rfl
    have x0 : w5.cell? ⟨r, 0, none⟩ = some (.int .i64 i.op) := by rw [BR5.out.cell]; rfl
    have x1 : w5.cell? ⟨r, 1, none⟩ = some (.int .i64 i.a) := by rw [BR5.out.cell]; rfl
    have x2 : w5.cell? ⟨r, 2, none⟩ = some (.int .i64 i.b) := by rw [BR5.out.cell]; rfl
    have x3 : w5.cell? ⟨r, 3, none⟩ = some (.int .i64 i.c) := by rw [BR5.out.cell]; rfl
    have x4 : w5.cell? ⟨r, 4, none⟩ = some (.int .i64 i.n) := by rw [BR5.out.cell]; rfl
    clear ho ho1 e1 hd hJ
    have hne : ¬ jo = i.op ∨ (jo = i.op ∧ ¬ ja = i.a) ∨ (jo = i.op ∧ ja = i.a ∧ ¬ jb = i.b) ∨ (jo = i.op ∧ ja = i.a ∧ jb = i.b ∧ ¬ jc = i.c) ∨ (jo = i.op ∧ ja = i.a ∧ jb = i.b ∧ jc = i.c ∧ ¬ jn = i.n) := by
      by_cases h0 : jo = i.op
      · by_cases h1 : ja = i.a
        · by_cases h2 : jb = i.b
          · by_cases h3 : jc = i.c
            · by_cases h4 : jn = i.n
              · exact absurd (by subst h0 h1 h2 h3 h4; rfl) HNE.out
              · exact .inr (.inr (.inr (.inr ⟨h0, h1, h2, h3, h4⟩)))
            · exact .inr (.inr (.inr (.inl ⟨h0, h1, h2, h3⟩)))
          · exact .inr (.inr (.inl ⟨h0, h1, h2⟩))
        · exact .inr (.inl ⟨h0, h1⟩)
      · exact .inl h0
    clear HNE
    go_upto_region 11 with fail
    rcases hne with h | ⟨rfl, h⟩ | ⟨rfl, rfl, h⟩ | ⟨rfl, rfl, rfl, h⟩ | ⟨rfl, rfl, rfl, rfl, h⟩
    all_goals
      have hd := decide_eq_false h
      have hb := beq_eq_false_iff_ne.2 h
      go_quiet (fail)
      go_wp2_with fail
      go_ret
      exact ⟨rfl, by rw [HB.out]; exact below_drewN B5.out _⟩
  · clear hd
    go_wp2_with fail
    go_ret
    exact ⟨rfl, by rw [HB.out]; exact B5.out⟩
end Go.Proofs.YtmbacegbcccdjaaDoor
