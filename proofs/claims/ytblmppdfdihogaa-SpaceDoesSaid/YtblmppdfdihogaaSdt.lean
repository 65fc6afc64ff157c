/-
  SpaceDoes: along any acts, what each answers, and what is told behind it, is what the document says (the walk).
  Conditions: none. (My own text.)
-/
import Derived.Test.YtblmppdfdihogaaSds
import Derived.Test.YtblmppdfdihogaaSdm
namespace Go.Proofs.Ytblmppdfdihogaa
open Go.RowKit Spm
set_option linter.unusedVariables false
set_option linter.unusedSimpArgs false

/-- A block of cells, as a thing. -/
def Cel (g : Nat) (T : TypeId) (cs : Array Value) : Res := fun w F => Blk w g T cs ∧ F g
instance fr_cel (g : Nat) (T : TypeId) (cs : Array Value) : Fr (Cel g T cs) := ⟨fun ⟨h, hf⟩ hk => ⟨(hk g hf h.lt).trans h, hf⟩, fun ⟨h, hf⟩ hm => ⟨h, hm g hf h.lt⟩⟩
section
variable {B : Nat} {w wr w' : World} {X X' Y : Res} {g : Nat} {T : TypeId} {cs : Array Value}
theorem Has.cel (h : Has B w wr (Star (Cel g T cs) Y)) : Blk wr g T cs := by
  obtain ⟨F, ⟨F1, F2, h1, _⟩, _⟩ := h.own
  exact h1.1
theorem Has.cel_ge (h : Has B w wr (Star (Cel g T cs) Y)) : B ≤ g := by
  obtain ⟨F, ⟨F1, F2, h1, _, _, g1, _⟩, hF⟩ := h.own
  exact hF g (g1 g h1.2)
/-- A step on one thing leaves the other. -/
theorem Has.turn [hY : Fr Y] (h : Has B w wr (Star X Y)) (c : ∀ F, X wr F → Goes X' F wr w') : Has B w w' (Star X' Y) := by
  obtain ⟨F, ⟨F1, F2, h1, h2, hd, g1, g2⟩, h3⟩ := h.own
  obtain ⟨x1, x2⟩ := c F1 h1
  refine ⟨⟨fun k => F k ∨ wr.heap.size ≤ k, ⟨_, fun k => F2 k ∧ k < wr.heap.size, x1, hY.keep (hY.mono h2 (fun k hk hl => ⟨hk, hl⟩)) (fun k hk hl => x2.block k hl (fun a => hd k a hk.1)), fun k a b => ?_, fun k a => ?_, fun k a => .inl (g2 k a.1)⟩, fun k hk => ?_⟩, h.bel.trans (x2.below h.le (fun k hk => h3 k (g1 k hk))), Nat.le_trans h.le x2.size⟩
  · rcases a with a | a
    · exact hd k a b.1
    · omega
  · rcases a with a | a
    · exact .inl (g1 k a)
    · exact .inr a
  · rcases hk with hk | hk
    · exact h3 k hk
    · exact Nat.le_trans h.le hk
theorem Has.newcel [Fr Y] (h : Has B w wr Y) (T : TypeId) (cs : Array Value) : Has B w (wr.alloc (.cells cs T)) (Star (Cel wr.heap.size T cs) Y) :=
  h.add ((Below.refl _ _).alloc (Nat.le_refl _) _) ⟨Blk.new _ _ _, Nat.le_refl _⟩
theorem Has.store [Fr Y] (h : Has B w wr (Star (Cel g T cs) Y)) (k : Nat) (v : Value) : Has B w (wr.setCell ⟨g, k, none⟩ v) (Star (Cel g T (cs.setIfInBounds k v)) Y) :=
  h.turn fun F ⟨h1, h2⟩ => ⟨⟨h1.set k v, .inl h2⟩, (Keeps.refl F wr).setCell (.inl h2) v⟩
theorem Has.drop [Fr Y] (h : Has B w wr (Star (Cel g T cs) Y)) (hk : Keeps (fun k => k = g) wr w') : Has B w w' Y :=
  (h.turn (X' := Emp) fun F ⟨_, h2⟩ => ⟨trivial, hk.mono fun k e => by subst e; exact h2⟩).right
theorem Has.emp {X1 X2 : Res} (h : Has B w wr (Star X1 (Star X2 Y))) : Has B w wr (Star X1 (Star X2 Emp)) :=
  h.imp fun _ => Star.under fun _ => Star.under fun _ _ => trivial
end

set_option maxRecDepth 100000 in
set_option maxHeartbeats 4000000 in
theorem spdoes_walk (v : Value) (l : List ActM) (w : World) (hv : ActsV w w.heap.size v l) (hbl : ∀ m ∈ l, m.x.b.length ≤ 140737488351232) : Calls Try.prog 9 #[v] w fun e w' => e = .returned (.bool true) ∧ Below w.heap.size w w' := by
  have A1 := Lib.hid awake_any
  obtain ⟨A, cc, rfl, hm, hat⟩ := hv.at_
  unfold maxLen at hm
  have HAT := Lib.hid hat
  have HBL := Lib.hid hbl
  clear hat hv hbl
  go_enter Try.func9, Try.ntmps9
  go_wp2_with fail
  refine (A1.out _).mono ?_
  rintro e w1 ⟨rfl, h1⟩
  have H1 := Lib.hid h1; clear h1
  go_wp2_with fail
  refine (own_new (Has.start H1.out H1.out.size)).mono ?_
  rintro e w2 ⟨a0, rfl, m2⟩
  have M2 := Lib.hid m2.rnew.swap; clear m2
  go_wp2_with fail
  obtain ⟨cb, hcb⟩ : ∃ cb, w2.heap.size = cb := ⟨_, rfl⟩
  simp only [hcb] at M2 ⊢
  clear hcb
  go_loopw [4, 6] (fun s i wr => ∃ (k a : Nat) (L : List Rg), k ≤ l.length ∧ i = .int .i64 k ∧ s = .pointer (some ⟨a, 0, none⟩) ∧ Hid (Has w.heap.size w wr (Star (Sp a L) (Star (Rf cb L) Emp)))) (fun _ i _ => l.length - (intOf i).toNat)
  case atStart => exact ⟨0, a0, [], Nat.zero_le _, rfl, rfl, M2⟩
  case round =>
    obtain ⟨k, a, L, hk, rfl, rfl, hM⟩ := hrel
    by_cases hlt : k < l.length
    · obtain ⟨m, hmk⟩ : ∃ m, l[k]? = some m := ⟨l[k], List.getElem?_eq_getElem hlt⟩
      obtain ⟨b, off, rfl, hb, hok, hcell⟩ := HAT.out k m hmk
      have c0 : wr.cell? ⟨b, off + k * 5, none⟩ = some (.int .i64 m.x.d) := (hM.out.bel.cell (p := ⟨b, off + k * 5, none⟩) hb).trans (hcell 0 _ rfl)
      have c1 : wr.cell? ⟨b, off + k * 5 + 1, none⟩ = some (.int .i64 m.x.at_) := (hM.out.bel.cell (p := ⟨b, off + k * 5 + 1, none⟩) hb).trans (hcell 1 _ rfl)
      have c2 : wr.cell? ⟨b, off + k * 5 + 2, none⟩ = some (.int .i64 m.x.n) := (hM.out.bel.cell (p := ⟨b, off + k * 5 + 2, none⟩) hb).trans (hcell 2 _ rfl)
      have c3 : wr.cell? ⟨b, off + k * 5 + 3, none⟩ = some (.int .i64 m.x.p) := (hM.out.bel.cell (p := ⟨b, off + k * 5 + 3, none⟩) hb).trans (hcell 3 _ rfl)
      have c4 : wr.cell? ⟨b, off + k * 5 + 4, none⟩ = some (.slice m.A m.x.b.length m.c) := (hM.out.bel.cell (p := ⟨b, off + k * 5 + 4, none⟩) hb).trans (hcell 4 _ rfl)
      have hml := HBL.out m (List.mem_of_getElem? hmk)
      obtain ⟨r1, r2, r3, r4⟩ := hok.rng
      have HR := Lib.hid hok.rng
      have HSR := Lib.hid hok.src
      have HCE := Lib.hid hcell
      clear hok hmk hcell
      obtain ⟨⟨d, at_, n, p, bs⟩, MA, mc⟩ := m
      simp only at c0 c1 c2 c3 c4 hml r1 r2 r3 r4
      unfold I64 at r1 r2
      have q0 : (0 : Int) ≤ (k : Int) := by omega
      have q1 : (k : Int) < (l.length : Int) := by omega
      have hT : ∀ W : World, W = wr.alloc (.cells #[.int .i64 d, .int .i64 at_, .int .i64 n, .int .i64 p, .slice MA bs.length mc] 51) → Has w.heap.size w W (Star (Cel wr.heap.size 51 #[.int .i64 d, .int .i64 at_, .int .i64 n, .int .i64 p, .slice MA bs.length mc]) (Star (Sp a L) (Star (Rf cb L) Emp))) := fun W hW => by rw [hW]; exact hM.out.newcel _ _
      have HT := Lib.hid hT
      clear hT
      by_cases h9 : d = 9
      · subst h9
        go_wp2_with fail
        obtain ⟨w3, hw3⟩ : ∃ W : World, W = wr.alloc (.cells #[.int .i64 9, .int .i64 at_, .int .i64 n, .int .i64 p, .slice MA bs.length mc] 51) := ⟨_, rfl⟩
        have M3 := Lib.hid (HT.out w3 hw3).swap
        rw [← hw3]
        generalize wr.heap.size = g at M3 ⊢
        clear hw3 HT
        refine (own_copy M3.out).mono ?_
        rintro e w4 ⟨a', rfl, m4⟩
        have M4 := Lib.hid m4.swap; clear m4 M3
        go_wp2_with fail
        refine (own_map M4.out 64 7).mono ?_
        rintro e w5 ⟨rfl, m5⟩
        have M5 := Lib.hid m5; clear m5 M4
        have d1 : w5.cell? ⟨g, 1, none⟩ = some (.int .i64 at_) := by rw [M5.out.r3.cel.cell]; rfl
        have C6 := Lib.hid (own_poke (M5.out.stay (w' := w5.alloc (.cells #[.int .u8 9] 5)) ((Below.refl _ _).alloc (Nat.le_refl _) _)) at_ r1.2 (some ⟨w5.heap.size, 0, none⟩) 1 [9] (by simp) (fun _ => ⟨w5.heap.size, 0, rfl, fun j x hj => by
          match j, hj with
          | 0, hj => simp at hj; subst hj; rw [World.cell?_alloc_at _ _ _ _ rfl]; rfl
          | j + 1, hj => simp at hj⟩))
        go_wp2_with fail
        refine (C6.out).mono ?_
        rintro e w6 ⟨rfl, m6⟩
        have M6 := Lib.hid m6; clear m6 M5 C6 d1
        go_wp2_with fail
        refine (own_unmap M6.out 4096).mono ?_
        rintro e w7 ⟨rfl, m7⟩
        have M7 := Lib.hid m7.right; clear m7 M6

        have d4 : w7.cell? ⟨g, 4, none⟩ = some (.slice MA bs.length mc) := by rw [M7.out.swap.cel.cell]; rfl
        have S0 := Lib.hid (HSR.out.src M7.out.bel)
        go_wp2_with fail
        refine (lent_any MA mc bs hml _ S0.out).mono ?_
        rintro e x1 ⟨rfl, hL1, hL2⟩
        have N1 := Lib.hid (M7.out.add (Y := Cel w7.heap.size 5 (lentC bs).toArray) hL2 ⟨hL1, Nat.le_refl _⟩).r3
        generalize w7.heap.size = gl at N1 ⊢
        clear hL1 hL2 S0 M7 d4
        have f4 := N1.out.cel.free 4
        have d4 : x1.cell? ⟨g, 4, none⟩ = some (.slice MA bs.length mc) := by rw [N1.out.cel.cell]; rfl
        have N2 : Hid (Has w.heap.size w (x1.setCell ⟨g, 4, none⟩ (.slice (some ⟨gl, 0, none⟩) bs.length (bs.length + 3))) (Star (Cel g 51 #[.int .i64 9, .int .i64 at_, .int .i64 n, .int .i64 p, .slice (some ⟨gl, 0, none⟩) bs.length (bs.length + 3)]) (Star (Cel gl 5 (lentC bs).toArray) (Star (Sp a' L) (Star (Rf cb L) Emp))))) := Lib.hid (N1.out.store 4 _)
        obtain ⟨x2, hx2⟩ : ∃ x2, x1.setCell ⟨g, 4, none⟩ (.slice (some ⟨gl, 0, none⟩) bs.length (bs.length + 3)) = x2 := ⟨_, rfl⟩
        have HX2 := Lib.hid hx2
        rw [hx2] at N2
        clear N1 hx2
        have e0 : x2.cell? ⟨g, 0, none⟩ = some (.int .i64 9) := by rw [N2.out.cel.cell]; rfl
        have e1 : x2.cell? ⟨g, 1, none⟩ = some (.int .i64 at_) := by rw [N2.out.cel.cell]; rfl
        have e2 : x2.cell? ⟨g, 2, none⟩ = some (.int .i64 n) := by rw [N2.out.cel.cell]; rfl
        have e3 : x2.cell? ⟨g, 3, none⟩ = some (.int .i64 p) := by rw [N2.out.cel.cell]; rfl
        have e4 : x2.cell? ⟨g, 4, none⟩ = some (.slice (some ⟨gl, 0, none⟩) bs.length (bs.length + 3)) := by rw [N2.out.cel.cell]; rfl
        have S1 : Hid (SrcB x2 (some ⟨gl, 0, none⟩) bs) := Lib.hid (fun _ => ⟨gl, 0, rfl, fun j x hj => by
          rw [N2.out.swap.cel.cell, Nat.zero_add]
          unfold lentC
          rw [List.getElem?_toArray, List.getElem?_append_left (by rw [List.length_map]; exact (List.getElem?_eq_some_iff.1 hj).1), List.getElem?_map, hj]
          rfl⟩)
        have C2 := Lib.hid (own_does N2.out.r3 ⟨⟨9, at_, n, p, bs⟩, some ⟨gl, 0, none⟩, bs.length + 3⟩ HR.out S1.out)
        go_wp2_with (rw [HX2.out])
        refine (C2.out).mono ?_
        rintro e x3 ⟨rfl, n3⟩
        have N3 := Lib.hid n3.r3; clear n3 N2 C2 S1 e0 e1 e2 e3 e4 HX2
        have b4 : x3.cell? ⟨b, off + k * 5 + 4, none⟩ = some (.slice MA bs.length mc) := (N3.out.bel.cell (p := ⟨b, off + k * 5 + 4, none⟩) hb).trans (HCE.out 4 _ rfl)
        have C4 := Lib.hid (back_any gl MA mc bs hml x3 N3.out.cel (fun hn => by
          obtain ⟨bb, o, h1, h2, h3⟩ := HSR.out hn
          exact ⟨bb, o, h1, fun e => by have := N3.out.cel_ge; omega, fun j x hj => (N3.out.bel.cell (p := ⟨bb, o + j, none⟩) h2).trans (h3 j x hj)⟩))
        go_wp2_with fail
        refine (C4.out).mono ?_
        rintro e x4 ⟨rfl, hk4⟩
        have N4 := Lib.hid (N3.out.drop hk4).r3; clear hk4 N3 C4 b4
        have b0 : x4.cell? ⟨b, off + k * 5, none⟩ = some (.int .i64 9) := (N4.out.bel.cell (p := ⟨b, off + k * 5, none⟩) hb).trans (HCE.out 0 _ rfl)
        have b1 : x4.cell? ⟨b, off + k * 5 + 1, none⟩ = some (.int .i64 at_) := (N4.out.bel.cell (p := ⟨b, off + k * 5 + 1, none⟩) hb).trans (HCE.out 1 _ rfl)
        have b2 : x4.cell? ⟨b, off + k * 5 + 2, none⟩ = some (.int .i64 n) := (N4.out.bel.cell (p := ⟨b, off + k * 5 + 2, none⟩) hb).trans (HCE.out 2 _ rfl)
        have b3 : x4.cell? ⟨b, off + k * 5 + 3, none⟩ = some (.int .i64 p) := (N4.out.bel.cell (p := ⟨b, off + k * 5 + 3, none⟩) hb).trans (HCE.out 3 _ rfl)
        have b4 : x4.cell? ⟨b, off + k * 5 + 4, none⟩ = some (.slice MA bs.length mc) := (N4.out.bel.cell (p := ⟨b, off + k * 5 + 4, none⟩) hb).trans (HCE.out 4 _ rfl)
        have C5 := Lib.hid (own_model N4.out ⟨⟨9, at_, n, p, bs⟩, MA, mc⟩ HR.out HSR.out)
        go_wp2_with fail
        refine (C5.out).mono ?_
        rintro e x5 ⟨rfl, n5⟩
        have N5 := Lib.hid n5.swap; clear n5 N4 C5 b0 b1 b2 b3 b4
        generalize (doesS L ⟨9, at_, n, p, bs⟩).1 = L2 at N5
        generalize (doesS L ⟨9, at_, n, p, bs⟩).2.1 = R1
        generalize (doesS L ⟨9, at_, n, p, bs⟩).2.2 = R2
        have d1 : x5.cell? ⟨g, 1, none⟩ = some (.int .i64 at_) := by rw [N5.out.r3.cel.cell]; rfl
        have d2 : x5.cell? ⟨g, 2, none⟩ = some (.int .i64 n) := by rw [N5.out.r3.cel.cell]; rfl
        have C6 := Lib.hid (alike05 N5.out at_ n HR.out.at_ HR.out.n)
        go_wp2_with fail
        refine (C6.out).mono ?_
        rintro e x6 ⟨rfl, n6⟩
        have N6 := Lib.hid n6; clear n6 N5 C6 d1 d2
        have d1 : x6.cell? ⟨g, 1, none⟩ = some (.int .i64 at_) := by rw [N6.out.r3.cel.cell]; rfl
        have d4' : x6.cell? ⟨g, 4, none⟩ = some (.slice (some ⟨gl, 0, none⟩) bs.length (bs.length + 3)) := by rw [N6.out.r3.cel.cell]; rfl
        have C7 := Lib.hid (alike05 N6.out at_ (bs.length : Int) HR.out.at_ (by unfold I64; omega))
        go_wp2_with fail
        refine (C7.out).mono ?_
        rintro e x7 ⟨rfl, n7⟩
        have N7 := Lib.hid n7.emp; clear n7 N6 C7 d1 d4'
        go_wp2
        go_roundw
        case rel => exact ⟨k + 1, _, L2, by omega, by go_num, rfl, N7⟩
        case measure => simp [intOf]; omega
      · have e9 : (d == 9) = false := beq_eq_false_iff_ne.2 h9
        go_wp2_with fail
        obtain ⟨w3, hw3⟩ : ∃ W : World, W = wr.alloc (.cells #[.int .i64 d, .int .i64 at_, .int .i64 n, .int .i64 p, .slice MA bs.length mc] 51) := ⟨_, rfl⟩
        have M3 := Lib.hid (HT.out w3 hw3).swap
        rw [← hw3]
        generalize wr.heap.size = g at M3 ⊢
        clear hw3 HT

        have d4 : w3.cell? ⟨g, 4, none⟩ = some (.slice MA bs.length mc) := by rw [M3.out.swap.cel.cell]; rfl
        have S0 := Lib.hid (HSR.out.src M3.out.bel)
        go_wp2_with fail
        refine (lent_any MA mc bs hml _ S0.out).mono ?_
        rintro e x1 ⟨rfl, hL1, hL2⟩
        have N1 := Lib.hid (M3.out.add (Y := Cel w3.heap.size 5 (lentC bs).toArray) hL2 ⟨hL1, Nat.le_refl _⟩).r3
        generalize w3.heap.size = gl at N1 ⊢
        clear hL1 hL2 S0 M3 d4
        have f4 := N1.out.cel.free 4
        have d4 : x1.cell? ⟨g, 4, none⟩ = some (.slice MA bs.length mc) := by rw [N1.out.cel.cell]; rfl
        have N2 : Hid (Has w.heap.size w (x1.setCell ⟨g, 4, none⟩ (.slice (some ⟨gl, 0, none⟩) bs.length (bs.length + 3))) (Star (Cel g 51 #[.int .i64 d, .int .i64 at_, .int .i64 n, .int .i64 p, .slice (some ⟨gl, 0, none⟩) bs.length (bs.length + 3)]) (Star (Cel gl 5 (lentC bs).toArray) (Star (Sp a L) (Star (Rf cb L) Emp))))) := Lib.hid (N1.out.store 4 _)
        obtain ⟨x2, hx2⟩ : ∃ x2, x1.setCell ⟨g, 4, none⟩ (.slice (some ⟨gl, 0, none⟩) bs.length (bs.length + 3)) = x2 := ⟨_, rfl⟩
        have HX2 := Lib.hid hx2
        rw [hx2] at N2
        clear N1 hx2
        have e0 : x2.cell? ⟨g, 0, none⟩ = some (.int .i64 d) := by rw [N2.out.cel.cell]; rfl
        have e1 : x2.cell? ⟨g, 1, none⟩ = some (.int .i64 at_) := by rw [N2.out.cel.cell]; rfl
        have e2 : x2.cell? ⟨g, 2, none⟩ = some (.int .i64 n) := by rw [N2.out.cel.cell]; rfl
        have e3 : x2.cell? ⟨g, 3, none⟩ = some (.int .i64 p) := by rw [N2.out.cel.cell]; rfl
        have e4 : x2.cell? ⟨g, 4, none⟩ = some (.slice (some ⟨gl, 0, none⟩) bs.length (bs.length + 3)) := by rw [N2.out.cel.cell]; rfl
        have S1 : Hid (SrcB x2 (some ⟨gl, 0, none⟩) bs) := Lib.hid (fun _ => ⟨gl, 0, rfl, fun j x hj => by
          rw [N2.out.swap.cel.cell, Nat.zero_add]
          unfold lentC
          rw [List.getElem?_toArray, List.getElem?_append_left (by rw [List.length_map]; exact (List.getElem?_eq_some_iff.1 hj).1), List.getElem?_map, hj]
          rfl⟩)
        have C2 := Lib.hid (own_does N2.out.r3 ⟨⟨d, at_, n, p, bs⟩, some ⟨gl, 0, none⟩, bs.length + 3⟩ HR.out S1.out)
        go_wp2_with (rw [HX2.out])
        refine (C2.out).mono ?_
        rintro e x3 ⟨rfl, n3⟩
        have N3 := Lib.hid n3.r3; clear n3 N2 C2 S1 e0 e1 e2 e3 e4 HX2
        have b4 : x3.cell? ⟨b, off + k * 5 + 4, none⟩ = some (.slice MA bs.length mc) := (N3.out.bel.cell (p := ⟨b, off + k * 5 + 4, none⟩) hb).trans (HCE.out 4 _ rfl)
        have C4 := Lib.hid (back_any gl MA mc bs hml x3 N3.out.cel (fun hn => by
          obtain ⟨bb, o, h1, h2, h3⟩ := HSR.out hn
          exact ⟨bb, o, h1, fun e => by have := N3.out.cel_ge; omega, fun j x hj => (N3.out.bel.cell (p := ⟨bb, o + j, none⟩) h2).trans (h3 j x hj)⟩))
        go_wp2_with fail
        refine (C4.out).mono ?_
        rintro e x4 ⟨rfl, hk4⟩
        have N4 := Lib.hid (N3.out.drop hk4).r3; clear hk4 N3 C4 b4
        have b0 : x4.cell? ⟨b, off + k * 5, none⟩ = some (.int .i64 d) := (N4.out.bel.cell (p := ⟨b, off + k * 5, none⟩) hb).trans (HCE.out 0 _ rfl)
        have b1 : x4.cell? ⟨b, off + k * 5 + 1, none⟩ = some (.int .i64 at_) := (N4.out.bel.cell (p := ⟨b, off + k * 5 + 1, none⟩) hb).trans (HCE.out 1 _ rfl)
        have b2 : x4.cell? ⟨b, off + k * 5 + 2, none⟩ = some (.int .i64 n) := (N4.out.bel.cell (p := ⟨b, off + k * 5 + 2, none⟩) hb).trans (HCE.out 2 _ rfl)
        have b3 : x4.cell? ⟨b, off + k * 5 + 3, none⟩ = some (.int .i64 p) := (N4.out.bel.cell (p := ⟨b, off + k * 5 + 3, none⟩) hb).trans (HCE.out 3 _ rfl)
        have b4 : x4.cell? ⟨b, off + k * 5 + 4, none⟩ = some (.slice MA bs.length mc) := (N4.out.bel.cell (p := ⟨b, off + k * 5 + 4, none⟩) hb).trans (HCE.out 4 _ rfl)
        have C5 := Lib.hid (own_model N4.out ⟨⟨d, at_, n, p, bs⟩, MA, mc⟩ HR.out HSR.out)
        go_wp2_with fail
        refine (C5.out).mono ?_
        rintro e x5 ⟨rfl, n5⟩
        have N5 := Lib.hid n5.swap; clear n5 N4 C5 b0 b1 b2 b3 b4
        generalize (doesS L ⟨d, at_, n, p, bs⟩).1 = L2 at N5
        generalize (doesS L ⟨d, at_, n, p, bs⟩).2.1 = R1
        generalize (doesS L ⟨d, at_, n, p, bs⟩).2.2 = R2
        have d1 : x5.cell? ⟨g, 1, none⟩ = some (.int .i64 at_) := by rw [N5.out.r3.cel.cell]; rfl
        have d2 : x5.cell? ⟨g, 2, none⟩ = some (.int .i64 n) := by rw [N5.out.r3.cel.cell]; rfl
        have C6 := Lib.hid (alike05 N5.out at_ n HR.out.at_ HR.out.n)
        go_wp2_with fail
        refine (C6.out).mono ?_
        rintro e x6 ⟨rfl, n6⟩
        have N6 := Lib.hid n6; clear n6 N5 C6 d1 d2
        have d1 : x6.cell? ⟨g, 1, none⟩ = some (.int .i64 at_) := by rw [N6.out.r3.cel.cell]; rfl
        have d4' : x6.cell? ⟨g, 4, none⟩ = some (.slice (some ⟨gl, 0, none⟩) bs.length (bs.length + 3)) := by rw [N6.out.r3.cel.cell]; rfl
        have C7 := Lib.hid (alike05 N6.out at_ (bs.length : Int) HR.out.at_ (by unfold I64; omega))
        go_wp2_with fail
        refine (C7.out).mono ?_
        rintro e x7 ⟨rfl, n7⟩
        have N7 := Lib.hid n7.emp; clear n7 N6 C7 d1 d4'
        go_wp2
        go_roundw
        case rel => exact ⟨k + 1, _, L2, by omega, by go_num, rfl, N7⟩
        case measure => simp [intOf]; omega
    · have HB := Lib.hid hM.out.bel
      go_wp2
      go_ret
      exact ⟨rfl, HB.out⟩
end Go.Proofs.Ytblmppdfdihogaa
