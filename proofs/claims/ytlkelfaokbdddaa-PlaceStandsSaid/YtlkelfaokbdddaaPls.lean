/-
  Layer 15: what Map of the program computes.
  Conditions: none. (My own text.)
-/
import Derived.Test.YtlkelfaokbdddaaPlr
namespace Go.Proofs.Ytlkelfaokbdddaa
open Go.RowKit Spm
set_option linter.unusedVariables false
set_option linter.unusedSimpArgs false

/-- An image of segments alone. -/
def img0 : Img := ⟨.string ⟨#[]⟩, .int .i64 0, .slice none 0 0, .slice none 0 0, .slice none 0 0, .slice none 0 0, .slice none 0 0, .int .i64 0, .slice none 0 0, .slice none 0 0, .slice none 0 0, .slice none 0 0, .slice none 0 0, .int .i64 0⟩
section
variable {B : Nat} {w wr w' : World} {a : Nat} {L : List Rg} {Y : Res}
set_option maxRecDepth 100000 in
set_option maxHeartbeats 4000000 in
theorem pmap_own [hY : Fr Y] (h : Has B w wr (Star (Sp a L) Y)) (m : Img) (vs : Value) (l : List Sg) (hs : SegsAt w (fun k => k < B) vs l) (hok : ∀ s ∈ l, SgOk s) :
    Calls Try.prog 11 #[.pointer (some ⟨a, 0, none⟩), .agg (imgA m vs)] wr fun e w' => e = .returned (.tuple #[.int .i64 (mapI L l).2.1, .int .i64 (mapI L l).2.2]) ∧ Has B w w' (Star (Sp a (mapI L l).1) Y) := by
  have HSG := Lib.hid hs
  have HSO := Lib.hid hok
  have HOK := Lib.hid h.ok
  obtain ⟨R, hR⟩ : ∃ R, mapI L l = R := ⟨_, rfl⟩
  have HR := Lib.hid hR
  rw [hR]
  clear hs hR hok
  rw [show imgA m vs = #[m.c0, m.c1, vs, m.c3, m.c4, m.c5, m.c6, m.c7, m.c8, m.c9, m.c10, m.c11, m.c12, m.c13, m.c14] from rfl]
  have M0 := Lib.hid (h.newcel 39 #[m.c0, m.c1, vs, m.c3, m.c4, m.c5, m.c6, m.c7, m.c8, m.c9, m.c10, m.c11, m.c12, m.c13, m.c14])
  go_enter Try.func11, Try.ntmps11
  go_upto_region 1 with (fail)
  obtain ⟨W, hW⟩ : ∃ W, (wr.alloc (.cells #[m.c0, m.c1, vs, m.c3, m.c4, m.c5, m.c6, m.c7, m.c8, m.c9, m.c10, m.c11, m.c12, m.c13, m.c14] 39)) = W := ⟨_, rfl⟩
  rw [hW] at M0 ⊢
  clear  hW
  generalize wr.heap.size = b0 at M0 ⊢
  have M1 : Hid (Has B w W (Star (Cel b0 39 (imgA m vs)) (Star (Sp a L) Y))) := M0
  clear M0
  clear h
  obtain ⟨A, c, hvs, hc, hm, hrow⟩ := HSG.out.rows
  have im2 : W.cell? ⟨b0, 2, none⟩ = some (.slice A l.length c) := M1.out.cellat b0 2 (by rw [← hvs]; rfl)
  have HROW := Lib.hid hrow
  have HVS := Lib.hid hvs
  clear hrow hvs
  unfold maxLen at hm
  by_cases hl0 : l = []
  · have hn : (l.length : Int) = 0 := by rw [hl0]; rfl
    have HE : Hid (R = (L, 0, 1)) := Lib.hid (by rw [← HR.out]; unfold mapI; rw [if_pos hl0])
    have MZ := Lib.hid (M1.out.back (Sp a L) Y)
    clear HR M1 hl0 HROW HSG HSO
    generalize l.length = n at hn hc hm im2 ⊢
    go_wp2
    go_ret2
    exact ⟨by rw [HE.out]; first | done | rfl, by rw [HE.out]; exact MZ.out⟩
  · have hn : ((l.length : Int) == 0) = false := beq_eq_false_iff_ne.2 (by have := List.length_pos_iff.2 hl0; omega)
    have hbd := extS_bound l HSO.out
    have C1 := Lib.hid (extent_any m vs l (fun k => k < B) W (HSG.out.below M1.out.bel) HSO.out)
    obtain ⟨X, hX⟩ : ∃ X, extS l = X := ⟨_, rfl⟩
    rw [hX] at C1 hbd
    go_wp2_with (first | (refine wpList_rowW rfl 39 _ rfl b0 rfl (imgA m vs) _ (M1.out.getc b0) Try.underlying39 rfl (by kernel_rfl) ?_))
    refine (C1.out).mono ?_
    rintro e w2 ⟨rfl, hb2⟩
    have M2 := Lib.hid (M1.out.stay hb2)
    clear M1 C1 hb2 im2
    have C2 := Lib.hid (own_gap (M2.out.pick (Sp a L)) X)
    have HGO := Lib.hid (fun (he : (gapS L X).2 = 0) => gap_ok HOK.out he)
    have HR2 : Hid (R = if (gapS L X).2 ≠ 0 then (L, 0, (gapS L X).2) else goM (gapS L X).1 L [] l) := Lib.hid (by rw [← HR.out, ← hX]; unfold mapI; rw [if_neg hl0])
    obtain ⟨base, hbs⟩ : ∃ base, (gapS L X).1 = base := ⟨_, rfl⟩
    obtain ⟨E, hE⟩ : ∃ E, (gapS L X).2 = E := ⟨_, rfl⟩
    rw [hbs, hE] at C2 HGO HR2
    clear hbs hE hX HR hl0 hbd
    go_wp2_with fail
    refine (C2.out).mono ?_
    rintro e w3 ⟨rfl, m3⟩
    have M3 := Lib.hid (m3.norm (Star (Sp a L) (Star (Cel b0 39 (imgA m vs)) Y)))
    clear m3 M2 C2
    by_cases hE0 : E = 0
    · have hEb : (E != 0) = false := by simp [hE0]
      obtain ⟨g1, g2, g3, g4, g5, _⟩ := HGO.out hE0
      have HK0 : Hid (goM base L [] l = R) := Lib.hid (by rw [HR2.out, if_neg (by simp [hE0])])
      have hup := up_ge X g1
      have g6 : base ≤ 4294967296 := by omega
      have HWR : Hid (∀ s ∈ l, wrap64 (base + s.at_) = base + s.at_) := Lib.hid (fun s hs => by
        have := (HSO.out s hs).a0; have := (HSO.out s hs).a1; unfold wrap64; omega)
      have HIB : Hid (I64 base) := Lib.hid (by unfold I64; omega)
      have im2 : w3.cell? ⟨b0, 2, none⟩ = some (.slice A l.length c) := M3.out.cellat b0 2 (by rw [← HVS.out]; rfl)
      clear HR2 HGO hE0 g1 g2 g4 g5 hup
      go_wp2_with fail
      go_loopw [29] (fun i wr => ∃ (k : Nat) (Lk : List Rg), k ≤ l.length ∧ i = .int .i64 k ∧ Hid (Has B w wr (Star (Sp a Lk) (Star (Cel b0 39 (imgA m vs)) Y))) ∧ Hid (goM base Lk (l.take k) (l.drop k) = R)) (fun i _ => l.length - (intOf i).toNat)
      case atStart => exact ⟨0, L, Nat.zero_le _, rfl, M3, HK0⟩
      case round =>
        obtain ⟨k, Lk, hk, rfl, M4, HK⟩ := hrel
        clear M3 im2 HK0
        by_cases hkn : k < l.length
        · obtain ⟨s, hs⟩ : ∃ s, l[k]? = some s := ⟨_, List.getElem?_eq_getElem hkn⟩
          obtain ⟨b, off, hA, hbB, hlt, hcell0⟩ := HROW.out k s hs
          have hcell : ∀ j u, (segC s)[j]? = some u → wr.cell? ⟨b, off + k * 4 + j, none⟩ = some u := fun j u hu => (M4.out.bel.cell (p := ⟨b, off + k * 4 + j, none⟩) hbB).trans (hcell0 j u hu)
          have hso := HSO.out s (List.mem_of_getElem? hs)
          have HSM := Lib.hid (List.mem_of_getElem? hs)
          have a0 := hso.a0
          have a1 := hso.a1
          have HDT : Hid (l.drop k = s :: l.drop (k + 1) ∧ l.take k ++ [s] = l.take (k + 1)) := Lib.hid (by
            obtain ⟨h1, h2⟩ := List.getElem?_eq_some_iff.1 hs
            exact ⟨by rw [List.drop_eq_getElem_cons h1, h2], by rw [List.take_succ_eq_append_getElem h1, h2]⟩)
          have HK2 := Lib.hid HK.out
          rw [HDT.out.1] at HK2
          unfold goM at HK2
          rw [HDT.out.2] at HK2
          clear HK hso hs hlt hcell0 hbB
          subst hA
          have cel : ∀ j v, (segA s).toList[j]? = some v → wr.cell? ⟨b, off + k * 4 + j, none⟩ = some v := fun j v hv => hcell j v hv
          have Na := Lib.hid (M4.out.newcel 50 #[.int .i64 0, .int .i64 0, .slice none 0 0, .int .i64 0])
          have Nb := Lib.hid (Na.out.rowc wr.heap.size (segA s))
          go_upto_region 9 with (first | (refine wpList_partW rfl 50 _ rfl b (off + k * 4) rfl (segA s) _ cel Try.underlying50 rfl (by kernel_rfl) ?_) | (refine wpList_store_row rfl 50 _ _ rfl wr.heap.size (segA s) rfl rfl 50 #[.int .i64 0, .int .i64 0, .slice none 0 0, .int .i64 0] (Na.out.getc wr.heap.size) (by kernel_rfl) rfl (by kernel_rfl) ?_))
          obtain ⟨W5, hW⟩ : ∃ W5, (wr.alloc (.cells #[.int .i64 0, .int .i64 0, .slice none 0 0, .int .i64 0] 50)).setRow wr.heap.size (segA s) = W5 := ⟨_, rfl⟩
          have N5 := Nb
          rw [hW] at N5 ⊢
          clear hW Na Nb cel
          generalize wr.heap.size = q at N5 ⊢
          have s0 : W5.cell? ⟨q, 0, none⟩ = some (.int .i64 s.at_) := N5.out.cellat q 0 rfl
          have s1 : W5.cell? ⟨q, 1, none⟩ = some (.int .i64 s.sz) := N5.out.cellat q 1 rfl
          have s2 : W5.cell? ⟨q, 2, none⟩ = some (.slice s.A s.b.length s.c) := N5.out.cellat q 2 rfl
          have s3 : W5.cell? ⟨q, 3, none⟩ = some (.int .i64 s.pm) := N5.out.cellat q 3 rfl
          have C1 := Lib.hid (own_mapAt (N5.out.pick (Sp a Lk)) (base + s.at_) s.sz s.pm)
          have HMI := Lib.hid (fun (he : (mapAtS Lk (base + s.at_) s.sz s.pm).2 = 0) => mapAt_mem he)
          obtain ⟨L5, hL5⟩ : ∃ L5, (mapAtS Lk (base + s.at_) s.sz s.pm).1 = L5 := ⟨_, rfl⟩
          obtain ⟨E5, hE5⟩ : ∃ E5, (mapAtS Lk (base + s.at_) s.sz s.pm).2 = E5 := ⟨_, rfl⟩
          rw [hL5, hE5] at C1 HK2
          clear hL5 hE5 HMI M4
          go_wp2_with fail
          refine (C1.out).mono ?_
          rintro e w6 ⟨rfl, m6⟩
          have M6 := Lib.hid m6
          clear m6 C1 N5 s0 s1 s2 s3
          have im2 : w6.cell? ⟨b0, 2, none⟩ = some (.slice (some ⟨b, off, none⟩) l.length c) := M6.out.cellat b0 2 (by rw [← HVS.out]; rfl)
          have s0 : w6.cell? ⟨q, 0, none⟩ = some (.int .i64 s.at_) := M6.out.cellat q 0 rfl
          have s2 : w6.cell? ⟨q, 2, none⟩ = some (.slice s.A s.b.length s.c) := M6.out.cellat q 2 rfl
          have i1 : intOf (Value.int .i64 ((k : Int) + 1)) = (k : Int) + 1 := rfl
          have i2 : intOf (Value.int .i64 (k : Int)) = (k : Int) := rfl
          by_cases hE5 : E5 = 0
          · have hE5b : (E5 != 0) = false := by simp [hE5]
            rw [if_neg (by simp [hE5])] at HK2
            by_cases hb0 : s.b = []
            · have hlb : ((s.b.length : Int) == 0) = true := by rw [hb0]; rfl
              rw [if_pos hb0] at HK2
              have M7 := Lib.hid (M6.out.norm (Star (Sp a L5) (Star (Cel b0 39 (imgA m vs)) Y)))
              clear M6 hb0
              generalize s.b.length = bl at hlb s2
              go_wp2_with fail
              go_roundw
              case rel => exact ⟨k + 1, L5, hkn, rfl, M7, HK2⟩
              case measure => omega
            · have hlb : ((s.b.length : Int) == 0) = false := beq_eq_false_iff_ne.2 (by have := List.length_pos_iff.2 hb0; omega)
              rw [if_neg hb0] at HK2
              have hsl := (HSG.out.rng s HSM.out).2.2.2
              unfold maxLen at hsl
              have C2 := Lib.hid (own_poke (M6.out.pick (Sp a L5)) (base + s.at_) (by omega) s.A s.c s.b (by omega) ((HSG.out.below M6.out.bel).bys s HSM.out).src)
              obtain ⟨L6, hL6⟩ : ∃ L6, (setS L5 (base + s.at_) s.b 0).1 = L6 := ⟨_, rfl⟩
              obtain ⟨E6, hE6⟩ : ∃ E6, (setS L5 (base + s.at_) s.b 0).2 = E6 := ⟨_, rfl⟩
              rw [hL6, hE6] at C2 HK2
              clear hL6 hE6 hb0
              go_wp2_with fail
              refine (C2.out).mono ?_
              rintro e w7 ⟨rfl, m7⟩
              have M7 := Lib.hid m7
              clear m7 C2 M6 s0 s2 im2
              have im2 : w7.cell? ⟨b0, 2, none⟩ = some (.slice (some ⟨b, off, none⟩) l.length c) := M7.out.cellat b0 2 (by rw [← HVS.out]; rfl)
              by_cases hE6 : E6 = 0
              · have hE6b : (E6 != 0) = false := by simp [hE6]
                rw [if_neg (by simp [hE6])] at HK2
                have M8 := Lib.hid (M7.out.norm (Star (Sp a L6) (Star (Cel b0 39 (imgA m vs)) Y)))
                clear M7
                go_wp2_with fail
                go_roundw
                case rel => exact ⟨k + 1, L6, hkn, rfl, M8, HK2⟩
                case measure => omega
              · have hE6b : (E6 != 0) = true := bne_iff_ne.2 hE6
                rw [if_pos hE6] at HK2
                have CU := Lib.hid (punmap_own (M7.out.pick (Sp a L6)) base HIB.out img0 (.slice (some ⟨b, off, none⟩) (k + 1) c) (l.take (k + 1)) (SegsAt.first (HVS.out ▸ HSG.out) (k + 1) (by omega)))
                rw [unAllW_eq _ _ (fun t ht => HWR.out t (List.mem_of_mem_take ht))] at CU
                have hk1 : k + 1 ≤ c := by omega
                go_wp2_with fail
                refine (CU.out).mono ?_
                rintro e w8 ⟨rfl, m8⟩
                have MZ := Lib.hid (m8.back (Sp a (unAll L6 base (l.take (k + 1)))) Y)
                clear m8 CU M7 im2
                go_wp2
                go_ret2
                exact ⟨by rw [← HK2.out]; first | done | rfl, by rw [← HK2.out]; exact MZ.out⟩
          · have hE5b : (E5 != 0) = true := bne_iff_ne.2 hE5
            rw [if_pos hE5] at HK2
            have CU := Lib.hid (punmap_own (M6.out.pick (Sp a L5)) base HIB.out img0 (.slice (some ⟨b, off, none⟩) (k) c) (l.take (k)) (SegsAt.first (HVS.out ▸ HSG.out) (k) (by omega)))
            rw [unAllW_eq _ _ (fun t ht => HWR.out t (List.mem_of_mem_take ht))] at CU
            have hk1 : k ≤ c := by omega
            go_wp2_with fail
            refine (CU.out).mono ?_
            rintro e w8 ⟨rfl, m8⟩
            have MZ := Lib.hid (m8.back (Sp a (unAll L5 base (l.take k))) Y)
            clear m8 CU M6 im2 s0 s2
            go_wp2
            go_ret2
            exact ⟨by rw [← HK2.out]; first | done | rfl, by rw [← HK2.out]; exact MZ.out⟩
        · have hkl : k = l.length := by omega
          have HE : Hid (R = (Lk, base, 0)) := Lib.hid (by rw [← HK.out, hkl, List.drop_length]; rfl)
          have MZ := Lib.hid (M4.out.back (Sp a Lk) Y)
          have hge : ¬ ((k : Int) < (l.length : Int)) := by omega
          clear M4 HK
          go_wp2
          go_ret2
          exact ⟨by rw [HE.out]; first | done | rfl, by rw [HE.out]; exact MZ.out⟩
    · have hEb : (E != 0) = true := bne_iff_ne.2 hE0
      have HE : Hid (R = (L, 0, E)) := Lib.hid (by rw [HR2.out, if_pos hE0])
      have MZ := Lib.hid (M3.out.back (Sp a L) Y)
      clear HR2 M3 HGO
      go_wp2
      go_ret2
      exact ⟨by rw [HE.out]; first | done | rfl, by rw [HE.out]; exact MZ.out⟩
end
end Go.Proofs.Ytlkelfaokbdddaa
