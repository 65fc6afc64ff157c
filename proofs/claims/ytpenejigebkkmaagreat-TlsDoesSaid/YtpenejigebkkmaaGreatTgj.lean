/-
  TlsDoes: the walk.
  Layer 17: how a script comes in, with each act's capacity.
  Conditions: none. (My own text.)
-/
import Derived.Test.YtpenejigebkkmaaGreatTgh
import Derived.Test.YtpenejigebkkmaaGreatTgi
import Derived.Test.YtpenejigebkkmaaGreatTst
import Derived.Test.YtpenejigebkkmaaGreatTgc
import Derived.Test.YtpenejigebkkmaaGreatTgb
import Derived.Test.YtpenejigebkkmaaGreatOpr
namespace Go.Proofs.YtpenejigebkkmaaGreat
open Go.RowKit Spm
set_option linter.unusedVariables false
set_option linter.unusedSimpArgs false

theorem dt0 {B : Nat} {w wr : World} {Y : Res} [hY : Fr Y] {r : Nat} (h : Has B w wr (Star (Cel r 33 #[.slice none 0 0, .slice none 0 0, .slice none 0 0, .bool false, .int .i64 0]) Y)) : Has B w wr (Dl r (⟨[], [], [], false, 0, .slice none 0 0, .slice none 0 0, .slice none 0 0⟩ : Dt) Y) := by
  have h1 := Has.rwsNil (T := 107) (n := 6) (cells := dmC) h
  have h2 := Has.rwsNil (T := 3) (n := 1) (cells := igC) h1
  have h3 := Has.rwsNil (T := 109) (n := 3) (cells := dtC) h2
  exact h3.norm (Star (Cel r 33 #[.slice none 0 0, .slice none 0 0, .slice none 0 0, .bool false, .int .i64 0]) (Star (Mods (.slice none 0 0) []) (Star (Gens (.slice none 0 0) []) (Star (Thrs (.slice none 0 0) []) (Star (All dtR []) Y)))))
set_option maxRecDepth 100000 in
theorem act_one (x : TAct) (A : Option Addr) (c : Nat) : (#[.int .i64 x.d, .int .i64 x.n, .int .i64 x.th, .int .i64 x.sz, .bool x.st, .slice A x.b.length c] : Array Value).all (·.oneCell') = true := by kernel_rfl
attribute [local irreducible] wpList
def TLoop (B : Nat) (w wr : World) (r q : Nat) (vs vm : Value) : Prop := ∃ s a t L d, vs = .pointer (some ⟨s, 0, none⟩) ∧ vm = .pointer (some ⟨a, 0, none⟩) ∧ SInv t L ∧ Sim t d ∧ GI t ∧ Has B w wr (Tl s t (Star (Sp a L) (Dl r d (Star (Rf q L) Emp))))
set_option maxRecDepth 100000 in
set_option maxHeartbeats 8000000 in
theorem tdoes_walk (v : Value) (l : List TActM) (w : World) (hv : TActsV w w.heap.size v l) (hcap : ∀ m ∈ l, m.x.b.length ≤ m.c) :
    Calls Tryz.prog 3 #[v] w fun e w' => e = .returned (.bool true) ∧ Below w.heap.size w w' := by
  obtain ⟨A, c, rfl, hm, hat⟩ := hv.at_
  unfold maxLen at hm
  have HAT := Lib.hid hat
  have HCP := Lib.hid hcap
  clear hat hv hcap
  have M0 := Lib.hid (Has.start (Below.refl w.heap.size w) (Nat.le_refl _))
  obtain ⟨B, hB⟩ : ∃ B, w.heap.size = B := ⟨_, rfl⟩
  rw [hB] at M0 HAT ⊢
  clear hB
  go_enter Tryz.func3, Tryz.ntmps3
  go_wp2_with fail
  refine (tawake_any M0.out).mono ?_
  rintro e w1 ⟨rfl, mm⟩
  have C1 := Lib.hid (tnew_any mm)
  clear mm M0
  go_wp2_with fail
  refine (C1.out).mono ?_
  rintro e w2 ⟨s, gm, gg, gt, rfl, mm⟩
  have C2 := Lib.hid (own_new mm)
  clear mm C1
  go_wp2_with fail
  refine (C2.out).mono ?_
  rintro e w3 ⟨a, rfl, mm⟩
  have M3 := Lib.hid mm
  clear mm C2
  have M4 := Lib.hid (dt0 (M3.out.newcel 33 #[.slice none 0 0, .slice none 0 0, .slice none 0 0, .bool false, .int .i64 0]))
  go_upto_region 7 with fail
  obtain ⟨w4, hW⟩ : ∃ w4, w3.alloc (.cells #[.slice none 0 0, .slice none 0 0, .slice none 0 0, .bool false, .int .i64 0] 33) = w4 := ⟨_, rfl⟩
  rw [hW] at M4 ⊢
  clear hW M3
  generalize w3.heap.size = r at M4 ⊢
  have M5 := Lib.hid (M4.out.rnew)
  go_upto_region 8 with fail
  obtain ⟨w5, hW⟩ : ∃ w5, w4.alloc (.cells #[.slice none 0 0] 37) = w5 := ⟨_, rfl⟩
  rw [hW] at M5 ⊢
  clear hW M4
  generalize w4.heap.size = q at M5 ⊢
  have M6 : Hid (TLoop B w w5 r q (.pointer (some ⟨s, 0, none⟩)) (.pointer (some ⟨a, 0, none⟩))) := Lib.hid ⟨s, a, _, _, _, rfl, rfl, SInv.new gm gg gt, Sim.new gm gg gt _ _ _, GI.new gm gg gt, M5.out.norm (Tl s (ts0 gm gg gt) (Star (Sp a []) (Dl r (⟨[], [], [], false, 0, .slice none 0 0, .slice none 0 0, .slice none 0 0⟩ : Dt) (Star (Rf q []) Emp))))⟩
  clear M5
  go_wp2_with fail
  go_loopw [4, 5, 8] (fun vs vm i wr => ∃ k : Nat, k ≤ l.length ∧ i = .int .i64 k ∧ Hid (TLoop B w wr r q vs vm)) (fun _ _ i _ => l.length - (intOf i).toNat)
  case atStart => exact ⟨0, Nat.zero_le _, rfl, M6⟩
  case round =>
    clear M6
    obtain ⟨k, hk, rfl, hM⟩ := hrel
    by_cases hlt : k < l.length
    · obtain ⟨s, a, t, L, d, rfl, rfl, hs, hd, hg, hh⟩ := hM.out
      have HS := Lib.hid hs
      have HD := Lib.hid hd
      have HG := Lib.hid hg
      have M1 := Lib.hid hh
      clear hs hd hg hh hM
      obtain ⟨m, hmk⟩ : ∃ m, l[k]? = some m := ⟨l[k], List.getElem?_eq_getElem hlt⟩
      have hcp := HCP.out m (List.mem_of_getElem? hmk)
      obtain ⟨b, off, rfl, hb, hok, hcell⟩ := HAT.out k m hmk
      have HOK := Lib.hid hok
      have HCC := Lib.hid hcp
      have c0 : wr.cell? ⟨b, off + k * 6, none⟩ = some (.int .i64 m.x.d) := (M1.out.bel.cell (p := ⟨b, off + k * 6, none⟩) hb).trans (hcell 0 _ rfl)
      have c1 : wr.cell? ⟨b, off + k * 6 + 1, none⟩ = some (.int .i64 m.x.n) := (M1.out.bel.cell (p := ⟨b, off + k * 6 + 1, none⟩) hb).trans (hcell 1 _ rfl)
      have c2 : wr.cell? ⟨b, off + k * 6 + 2, none⟩ = some (.int .i64 m.x.th) := (M1.out.bel.cell (p := ⟨b, off + k * 6 + 2, none⟩) hb).trans (hcell 2 _ rfl)
      have c3 : wr.cell? ⟨b, off + k * 6 + 3, none⟩ = some (.int .i64 m.x.sz) := (M1.out.bel.cell (p := ⟨b, off + k * 6 + 3, none⟩) hb).trans (hcell 3 _ rfl)
      have c4 : wr.cell? ⟨b, off + k * 6 + 4, none⟩ = some (.bool m.x.st) := (M1.out.bel.cell (p := ⟨b, off + k * 6 + 4, none⟩) hb).trans (hcell 4 _ rfl)
      have c5 : wr.cell? ⟨b, off + k * 6 + 5, none⟩ = some (.slice m.A m.x.b.length m.c) := (M1.out.bel.cell (p := ⟨b, off + k * 6 + 5, none⟩) hb).trans (hcell 5 _ rfl)
      have Na := Lib.hid (M1.out.newcel 40 #[.int .i64 0, .int .i64 0, .int .i64 0, .int .i64 0, .bool false, .slice none 0 0])
      have Nb := Lib.hid (Na.out.rowc wr.heap.size #[.int .i64 m.x.d, .int .i64 m.x.n, .int .i64 m.x.th, .int .i64 m.x.sz, .bool m.x.st, .slice m.A m.x.b.length m.c])
      clear hcell hok hcp hmk hb
      go_upto_region 12 with (first | (refine wpList_store_row rfl 40 _ _ rfl wr.heap.size #[.int .i64 m.x.d, .int .i64 m.x.n, .int .i64 m.x.th, .int .i64 m.x.sz, .bool m.x.st, .slice m.A m.x.b.length m.c] rfl rfl 40 #[.int .i64 0, .int .i64 0, .int .i64 0, .int .i64 0, .bool false, .slice none 0 0] (Na.out.getc wr.heap.size) (by kernel_rfl) rfl (act_one m.x m.A m.c) ?_))
      obtain ⟨W1, hW⟩ : ∃ W1, (wr.alloc (.cells #[.int .i64 0, .int .i64 0, .int .i64 0, .int .i64 0, .bool false, .slice none 0 0] 40)).setRow wr.heap.size #[.int .i64 m.x.d, .int .i64 m.x.n, .int .i64 m.x.th, .int .i64 m.x.sz, .bool m.x.st, .slice m.A m.x.b.length m.c] = W1 := ⟨_, rfl⟩
      rw [hW] at Nb ⊢
      clear hW Na c0 c1 c2 c3 c4 c5 M1
      generalize wr.heap.size = x9 at Nb ⊢
      have q0 : W1.cell? ⟨x9, 0, none⟩ = some (.int .i64 m.x.d) := Nb.out.cellat x9 0 rfl
      have N1 := Lib.hid (Nb.out.norm (Tl s t (Star (Sp a L) (Star (Cel x9 40 #[.int .i64 m.x.d, .int .i64 m.x.n, .int .i64 m.x.th, .int .i64 m.x.sz, .bool m.x.st, .slice m.A m.x.b.length m.c]) (Dl r d (Star (Rf q L) Emp))))))
      clear Nb
      by_cases h7 : m.x.d = 7
      rotate_left
      · have h7d : decide (m.x.d = 7) = false := decide_eq_false h7
        go_upto_region 20 with fail
        clear q0
        have q0 : W1.cell? ⟨x9, 0, none⟩ = some (.int .i64 m.x.d) := N1.out.cellat x9 0 rfl
        have q1 : W1.cell? ⟨x9, 1, none⟩ = some (.int .i64 m.x.n) := N1.out.cellat x9 1 rfl
        have q2 : W1.cell? ⟨x9, 2, none⟩ = some (.int .i64 m.x.th) := N1.out.cellat x9 2 rfl
        have q3 : W1.cell? ⟨x9, 3, none⟩ = some (.int .i64 m.x.sz) := N1.out.cellat x9 3 rfl
        have q4 : W1.cell? ⟨x9, 4, none⟩ = some (.bool m.x.st) := N1.out.cellat x9 4 rfl
        have q5 : W1.cell? ⟨x9, 5, none⟩ = some (.slice m.A m.x.b.length m.c) := N1.out.cellat x9 5 rfl
        have C1 : Hid (Calls Tryz.prog 12 #[.pointer (some ⟨s, 0, none⟩), .pointer (some ⟨a, 0, none⟩), .agg #[.int .i64 m.x.d, .int .i64 m.x.n, .int .i64 m.x.th, .int .i64 m.x.sz, .bool m.x.st, .slice m.A m.x.b.length m.c]] W1 (DoesE s a t L (Star (Cel x9 40 #[.int .i64 m.x.d, .int .i64 m.x.n, .int .i64 m.x.th, .int .i64 m.x.sz, .bool m.x.st, .slice m.A m.x.b.length m.c]) (Dl r d (Star (Rf q L) Emp))) B w m.x)) := Lib.hid (tdoes_any N1.out HS.out.inv m.x m.A m.c HOK.out.len (fun w' hb' => HOK.out.src.src hb') (fun hne p hp' => by
            obtain ⟨bb, off2, h1, h2, -⟩ := HOK.out.src hne
            rw [h1] at hp'
            cases hp'
            exact h2))
        go_wp2_with fail
        refine (C1.out).mono ?_
        rintro e w2 ⟨n1, r1, t1, L1, hp, rfl, mm⟩
        have HP := Lib.hid hp
        have N2 := Lib.hid (mm.norm (Dl r d (Star (Rf q L) (Star (Cel x9 40 #[.int .i64 m.x.d, .int .i64 m.x.n, .int .i64 m.x.th, .int .i64 m.x.sz, .bool m.x.st, .slice m.A m.x.b.length m.c]) (Tl s t1 (Star (Sp a L1) Emp))))))
        clear hp mm C1 N1 q0 q1 q2 q3 q4 q5
        have q0 : w2.cell? ⟨x9, 0, none⟩ = some (.int .i64 m.x.d) := N2.out.cellat x9 0 rfl
        have q1 : w2.cell? ⟨x9, 1, none⟩ = some (.int .i64 m.x.n) := N2.out.cellat x9 1 rfl
        have q2 : w2.cell? ⟨x9, 2, none⟩ = some (.int .i64 m.x.th) := N2.out.cellat x9 2 rfl
        have q3 : w2.cell? ⟨x9, 3, none⟩ = some (.int .i64 m.x.sz) := N2.out.cellat x9 3 rfl
        have q4 : w2.cell? ⟨x9, 4, none⟩ = some (.bool m.x.st) := N2.out.cellat x9 4 rfl
        have q5 : w2.cell? ⟨x9, 5, none⟩ = some (.slice m.A m.x.b.length m.c) := N2.out.cellat x9 5 rfl
        have C2 : Hid (Calls Tryz.prog 13 #[.pointer (some ⟨r, 0, none⟩), .pointer (some ⟨q, 0, none⟩), .agg #[.int .i64 m.x.d, .int .i64 m.x.n, .int .i64 m.x.th, .int .i64 m.x.sz, .bool m.x.st, .slice m.A m.x.b.length m.c]] w2 (ModE r q d L (Star (Cel x9 40 #[.int .i64 m.x.d, .int .i64 m.x.n, .int .i64 m.x.th, .int .i64 m.x.sz, .bool m.x.st, .slice m.A m.x.b.length m.c]) (Tl s t1 (Star (Sp a L1) Emp))) B w m.x)) := Lib.hid (model_any N2.out (HD.out.dinv HS.out) m.x m.A m.c HOK.out.len HCC.out (fun w' hb' => HOK.out.src.src hb') (fun hne p hp' => by
            obtain ⟨bb, off2, h1, h2, -⟩ := HOK.out.src hne
            rw [h1] at hp'
            cases hp'
            exact h2))
        go_wp2_with fail
        refine (C2.out).mono ?_
        rintro e w3 ⟨n2, r2, d1, L2, hq, rfl, mm⟩
        obtain ⟨rfl, rfl, rfl, hd1⟩ := HD.out.does HS.out HG.out HP.out hq
        have HS1 := Lib.hid (HS.out.does HP.out)
        have HG1 := Lib.hid (HG.out.does HP.out)
        have HD1 := Lib.hid hd1
        have N3 := Lib.hid (mm.norm (Tl s t1 (Star (Sp a L2) (Dl r d1 (Star (Rf q L2) (Star (Cel x9 40 #[.int .i64 m.x.d, .int .i64 m.x.n, .int .i64 m.x.th, .int .i64 m.x.sz, .bool m.x.st, .slice m.A m.x.b.length m.c]) Emp))))))
        clear hq hd1 mm C2 N2 q0 q1 q2 q3 q4 q5 HP HS HD HG
        have q1 : w3.cell? ⟨x9, 1, none⟩ = some (.int .i64 m.x.n) := N3.out.cellat x9 1 rfl
        have q2 : w3.cell? ⟨x9, 2, none⟩ = some (.int .i64 m.x.th) := N3.out.cellat x9 2 rfl
        have C3 := Lib.hid (alike17 N3.out HS1.out HD1.out m.x.n m.x.th)
        go_wp2_with fail
        refine (C3.out).mono ?_
        rintro e w4 ⟨rfl, mm⟩
        have M4 : Hid (TLoop B w w4 r q (.pointer (some ⟨s, 0, none⟩)) (.pointer (some ⟨a, 0, none⟩))) := Lib.hid ⟨s, a, _, _, _, rfl, rfl, HS1.out, HD1.out, HG1.out, mm.norm (Tl s t1 (Star (Sp a L2) (Dl r d1 (Star (Rf q L2) Emp))))⟩
        clear mm C3 N3 q1 q2 HS1 HD1 HG1
        go_wp2_with fail
        first
          | (go_roundw
             case rel => exact ⟨k + 1, by omega, by go_num, M4⟩
             case measure => simp [intOf]; omega)
          | (refine ⟨?_, ?_⟩
             · (repeat apply Exists.intro)
               refine ⟨?_, rfl⟩
               exact ⟨k + 1, by omega, by go_num, M4⟩
             · simp [intOf]; omega)
      · have C1 := Lib.hid (tcopy_any N1.out HS.out.inv.good)
        go_upto_region 13 with fail
        clear h7
        go_wp2_with fail
        refine (C1.out).mono ?_
        rintro e w2 ⟨cs, t2, rfl, hct, mm⟩
        have HS2 := Lib.hid (hct.sinv HS.out)
        have HD2 := Lib.hid (hct.sim HS.out HD.out)
        have HG2 := Lib.hid (hct.gi HG.out)
        have N2 := Lib.hid (mm.norm (Star (Sp a L) (Tl cs t2 (Tw s t (Star (Cel x9 40 #[.int .i64 m.x.d, .int .i64 m.x.n, .int .i64 m.x.th, .int .i64 m.x.sz, .bool m.x.st, .slice m.A m.x.b.length m.c]) (Dl r d (Star (Rf q L) Emp)))))))
        have C2 := Lib.hid (own_copy N2.out)
        clear hct mm C1 N1 q0
        go_wp2_with fail
        refine (C2.out).mono ?_
        rintro e w3 ⟨ca, rfl, mm⟩
        have N3 := Lib.hid (mm.norm (Tw s t (Star (Sp a L) (Tl cs t2 (Star (Sp ca L) (Star (Cel x9 40 #[.int .i64 m.x.d, .int .i64 m.x.n, .int .i64 m.x.th, .int .i64 m.x.sz, .bool m.x.st, .slice m.A m.x.b.length m.c]) (Dl r d (Star (Rf q L) Emp))))))))
        have C3 : Hid (Calls Tryz.prog 9 #[.pointer (some ⟨s, 0, none⟩), .slice none 0 0, .int .i64 9, .bool false] w3 (RegW s t (Star (Sp a L) (Tl cs t2 (Star (Sp ca L) (Star (Cel x9 40 #[.int .i64 m.x.d, .int .i64 m.x.n, .int .i64 m.x.th, .int .i64 m.x.sz, .bool m.x.st, .slice m.A m.x.b.length m.c]) (Dl r d (Star (Rf q L) Emp)))))) B w [] 9 false)) := Lib.hid (wreg_any N3.out HS.out.inv.key (A := none) (c := 0) (tm := []) (fun hne => absurd rfl hne) (fun hne => absurd rfl hne) 9 false (Lib.hid rfl))
        clear mm C2 N2
        go_wp2_with fail
        refine (C3.out).mono ?_
        intro e w4 hE
        obtain ⟨n1, r1, t3, hP, rfl, mm⟩ := RegW.plain hE
        have HS3 := Lib.hid (HS.out.reg hP)
        have N4 := Lib.hid mm
        have C4 := Lib.hid (wrel_any N4.out HS3.out.inv.good m.x.n)
        have q1 : w4.cell? ⟨x9, 1, none⟩ = some (.int .i64 m.x.n) := N4.out.cellat x9 1 rfl
        clear hE hP mm C3 N3
        go_wp2_with fail
        refine (C4.out).mono ?_
        intro e w5 hE
        obtain ⟨r4, t4, L4, hP, rfl, mm⟩ := RelW.plain hE
        have HS4 := Lib.hid (HS3.out.rel hP)
        have N5 := Lib.hid mm
        have C5 := Lib.hid (wexit_any N5.out HS4.out.inv.good m.x.th)
        have q2 : w5.cell? ⟨x9, 2, none⟩ = some (.int .i64 m.x.th) := N5.out.cellat x9 2 rfl
        clear hE hP mm C4 N4 q1
        go_wp2_with fail
        refine (C5.out).mono ?_
        intro e w6 hE
        obtain ⟨r5, t5, L5, hP, rfl, mm⟩ := ExitW.plain hE
        have N1 := Lib.hid (mm.norm (Tl cs t2 (Star (Sp ca L) (Star (Cel x9 40 #[.int .i64 m.x.d, .int .i64 m.x.n, .int .i64 m.x.th, .int .i64 m.x.sz, .bool m.x.st, .slice m.A m.x.b.length m.c]) (Dl r d (Star (Rf q L) Emp))))))
        clear hE hP mm C5 N5 q2 HS HD HG HS3 HS4
        have HS := HS2
        have HD := HD2
        have HG := HG2
        clear HS2 HD2 HG2
        clear t3 t4 t5 L4 L5
        go_upto_region 20 with fail
        have q0 : w6.cell? ⟨x9, 0, none⟩ = some (.int .i64 m.x.d) := N1.out.cellat x9 0 rfl
        have q1 : w6.cell? ⟨x9, 1, none⟩ = some (.int .i64 m.x.n) := N1.out.cellat x9 1 rfl
        have q2 : w6.cell? ⟨x9, 2, none⟩ = some (.int .i64 m.x.th) := N1.out.cellat x9 2 rfl
        have q3 : w6.cell? ⟨x9, 3, none⟩ = some (.int .i64 m.x.sz) := N1.out.cellat x9 3 rfl
        have q4 : w6.cell? ⟨x9, 4, none⟩ = some (.bool m.x.st) := N1.out.cellat x9 4 rfl
        have q5 : w6.cell? ⟨x9, 5, none⟩ = some (.slice m.A m.x.b.length m.c) := N1.out.cellat x9 5 rfl
        have C1 : Hid (Calls Tryz.prog 12 #[.pointer (some ⟨cs, 0, none⟩), .pointer (some ⟨ca, 0, none⟩), .agg #[.int .i64 m.x.d, .int .i64 m.x.n, .int .i64 m.x.th, .int .i64 m.x.sz, .bool m.x.st, .slice m.A m.x.b.length m.c]] w6 (DoesE cs ca t2 L (Star (Cel x9 40 #[.int .i64 m.x.d, .int .i64 m.x.n, .int .i64 m.x.th, .int .i64 m.x.sz, .bool m.x.st, .slice m.A m.x.b.length m.c]) (Dl r d (Star (Rf q L) Emp))) B w m.x)) := Lib.hid (tdoes_any N1.out HS.out.inv m.x m.A m.c HOK.out.len (fun w' hb' => HOK.out.src.src hb') (fun hne p hp' => by
            obtain ⟨bb, off2, h1, h2, -⟩ := HOK.out.src hne
            rw [h1] at hp'
            cases hp'
            exact h2))
        go_wp2_with fail
        refine (C1.out).mono ?_
        rintro e w7 ⟨n1, r1, t1, L1, hp, rfl, mm⟩
        have HP := Lib.hid hp
        have N2 := Lib.hid (mm.norm (Dl r d (Star (Rf q L) (Star (Cel x9 40 #[.int .i64 m.x.d, .int .i64 m.x.n, .int .i64 m.x.th, .int .i64 m.x.sz, .bool m.x.st, .slice m.A m.x.b.length m.c]) (Tl cs t1 (Star (Sp ca L1) Emp))))))
        clear hp mm C1 N1 q0 q1 q2 q3 q4 q5
        have q0 : w7.cell? ⟨x9, 0, none⟩ = some (.int .i64 m.x.d) := N2.out.cellat x9 0 rfl
        have q1 : w7.cell? ⟨x9, 1, none⟩ = some (.int .i64 m.x.n) := N2.out.cellat x9 1 rfl
        have q2 : w7.cell? ⟨x9, 2, none⟩ = some (.int .i64 m.x.th) := N2.out.cellat x9 2 rfl
        have q3 : w7.cell? ⟨x9, 3, none⟩ = some (.int .i64 m.x.sz) := N2.out.cellat x9 3 rfl
        have q4 : w7.cell? ⟨x9, 4, none⟩ = some (.bool m.x.st) := N2.out.cellat x9 4 rfl
        have q5 : w7.cell? ⟨x9, 5, none⟩ = some (.slice m.A m.x.b.length m.c) := N2.out.cellat x9 5 rfl
        have C2 : Hid (Calls Tryz.prog 13 #[.pointer (some ⟨r, 0, none⟩), .pointer (some ⟨q, 0, none⟩), .agg #[.int .i64 m.x.d, .int .i64 m.x.n, .int .i64 m.x.th, .int .i64 m.x.sz, .bool m.x.st, .slice m.A m.x.b.length m.c]] w7 (ModE r q d L (Star (Cel x9 40 #[.int .i64 m.x.d, .int .i64 m.x.n, .int .i64 m.x.th, .int .i64 m.x.sz, .bool m.x.st, .slice m.A m.x.b.length m.c]) (Tl cs t1 (Star (Sp ca L1) Emp))) B w m.x)) := Lib.hid (model_any N2.out (HD.out.dinv HS.out) m.x m.A m.c HOK.out.len HCC.out (fun w' hb' => HOK.out.src.src hb') (fun hne p hp' => by
            obtain ⟨bb, off2, h1, h2, -⟩ := HOK.out.src hne
            rw [h1] at hp'
            cases hp'
            exact h2))
        go_wp2_with fail
        refine (C2.out).mono ?_
        rintro e w8 ⟨n2, r2, d1, L2, hq, rfl, mm⟩
        obtain ⟨rfl, rfl, rfl, hd1⟩ := HD.out.does HS.out HG.out HP.out hq
        have HS1 := Lib.hid (HS.out.does HP.out)
        have HG1 := Lib.hid (HG.out.does HP.out)
        have HD1 := Lib.hid hd1
        have N3 := Lib.hid (mm.norm (Tl cs t1 (Star (Sp ca L2) (Dl r d1 (Star (Rf q L2) (Star (Cel x9 40 #[.int .i64 m.x.d, .int .i64 m.x.n, .int .i64 m.x.th, .int .i64 m.x.sz, .bool m.x.st, .slice m.A m.x.b.length m.c]) Emp))))))
        clear hq hd1 mm C2 N2 q0 q1 q2 q3 q4 q5 HP HS HD HG
        have q1 : w8.cell? ⟨x9, 1, none⟩ = some (.int .i64 m.x.n) := N3.out.cellat x9 1 rfl
        have q2 : w8.cell? ⟨x9, 2, none⟩ = some (.int .i64 m.x.th) := N3.out.cellat x9 2 rfl
        have C3 := Lib.hid (alike17 N3.out HS1.out HD1.out m.x.n m.x.th)
        go_wp2_with fail
        refine (C3.out).mono ?_
        rintro e w9 ⟨rfl, mm⟩
        have M4 : Hid (TLoop B w w9 r q (.pointer (some ⟨cs, 0, none⟩)) (.pointer (some ⟨ca, 0, none⟩))) := Lib.hid ⟨cs, ca, _, _, _, rfl, rfl, HS1.out, HD1.out, HG1.out, mm.norm (Tl cs t1 (Star (Sp ca L2) (Dl r d1 (Star (Rf q L2) Emp))))⟩
        clear mm C3 N3 q1 q2 HS1 HD1 HG1
        go_wp2_with fail
        first
          | (go_roundw
             case rel => exact ⟨k + 1, by omega, by go_num, M4⟩
             case measure => simp [intOf]; omega)
          | (refine ⟨?_, ?_⟩
             · (repeat apply Exists.intro)
               refine ⟨?_, rfl⟩
               exact ⟨k + 1, by omega, by go_num, M4⟩
             · simp [intOf]; omega)
    · have H1 := Lib.hid (by obtain ⟨s, a, t, L, d, -, -, -, -, -, hh⟩ := hM.out; exact hh.bel : Below B w wr)
      go_wp2
      go_ret
      exact ⟨rfl, H1.out⟩
end Go.Proofs.YtpenejigebkkmaaGreat

namespace Go.Proofs.YtpenejigebkkmaaGreat
open Go.ChangeShapes Go.WideShapes Go.ChangeAt Go.RowKit Go.Deep Spm
set_option linter.unusedVariables false
set_option linter.unusedSimpArgs false
section
variable {H : Type} {enc : TypeId × Value → H} {w : World}
theorem bytes_cap {t e : TypeId} {fuel : Nat} {A : Option Addr} {n c : Nat} {y : DataW H × List MemPlace} (ht : Tryz.prog.underlying t = some (.slice e)) (h : DataW.trod enc Tryz.prog w 0 (fun _ => true) true fuel t [.slice A n c] = some y) : n ≤ c := by
  rcases DataW.trod_slice ht h with ⟨h0, _⟩ | ⟨a, len, cap, elems, rest, n, _, hcs, _, _, hl, _⟩
  · simp at h0
    omega
  · simp at hcs
    obtain ⟨rfl, rfl, rfl⟩ := hcs
    exact hl
set_option maxRecDepth 100000 in
theorem open_tactsC {t : TypeId} {r : Reach} {b0 : Nat} {v : Value} {d : DataW H} {p : List MemPlace} (ht : Tryz.prog.underlying t = some (.slice 40)) (hv : Value.okWide Tryz.prog w r b0 t v)
    (h : DataW.Trod enc Tryz.prog w 0 (fun _ => true) true t v d p) (hw : ∀ m ∈ d.weights Tryz.prog t, m ≤ 140737488351232) : ∃ l, TActsV w w.heap.size v l ∧ ∀ m ∈ l, m.x.b.length ≤ m.c := by
  obtain ⟨a0, len0, cap0, rfl⟩ := okWide_slice ht hv
  obtain ⟨fuel, hf⟩ := h
  rcases open_slice_onesR ht Tryz.underlying40 (by kernel_rfl) (by kernel_rfl) (by simpa [Value.cells] using hf) with h0 | ⟨a, len, cap, hcs, hl, hm, hx⟩
  · simp at h0
    obtain ⟨rfl, rfl, rfl⟩ := h0
    exact ⟨[], .inl ⟨_, _, rfl, rfl⟩, fun m hm => by simp at hm⟩
  · simp at hcs
    obtain ⟨rfl, rfl, rfl⟩ := hcs
    rcases Nat.eq_zero_or_pos len0 with hz | hpos
    · subst hz
      exact ⟨[], .inl ⟨_, _, rfl, rfl⟩, fun m hm => by simp at hm⟩
    obtain ⟨l, hlen, hq⟩ := list_of (Q := fun i (x : TActM) => (TActOk w w.heap.size x ∧ x.x.b.length ≤ x.c) ∧ ∀ (j : Nat) (u : Value), x.cells[j]? = some u → w.cell? (a.add (i * 6 + j)) = some u) len0 (fun i hi => by
      obtain ⟨u0, n0, y0, g0, e0, _⟩ := hx i hi 0 _ rfl
      obtain ⟨x0, rfl, w0⟩ := int_cell Tryz.underlying3 e0
      obtain ⟨u1, n1, y1, g1, e1, _⟩ := hx i hi 1 _ rfl
      obtain ⟨x1, rfl, w1⟩ := int_cell Tryz.underlying3 e1
      obtain ⟨u2, n2, y2, g2, e2, _⟩ := hx i hi 2 _ rfl
      obtain ⟨x2, rfl, w2⟩ := int_cell Tryz.underlying3 e2
      obtain ⟨u3, n3, y3, g3, e3, _⟩ := hx i hi 3 _ rfl
      obtain ⟨x3, rfl, w3⟩ := int_cell Tryz.underlying3 e3
      obtain ⟨u4, n4, y4, g4, e4, _⟩ := hx i hi 4 _ rfl
      obtain ⟨x4, rfl⟩ := bool_cell Tryz.underlying4 e4
      obtain ⟨u5, n5, y5, g5, e5, m5⟩ := hx i hi 5 _ rfl
      obtain ⟨A, b, c, rfl, hbl, hba⟩ := open_bytes Tryz.underlying38 e5
      have hbc := bytes_cap Tryz.underlying38 e5
      have hbs := bytes_len Tryz.underlying38 (by kernel_rfl) e5 (fun m hm => hw m (m5 m hm))
      refine ⟨⟨⟨x0, x1, x2, x3, x4, b⟩, A, c⟩, ⟨⟨hba, hbs⟩, hbc⟩, fun j u hu => ?_⟩
      match j, hu with
      | 0, hu => simp [TActM.cells] at hu; subst hu; exact g0
      | 1, hu => simp [TActM.cells] at hu; subst hu; exact g1
      | 2, hu => simp [TActM.cells] at hu; subst hu; exact g2
      | 3, hu => simp [TActM.cells] at hu; subst hu; exact g3
      | 4, hu => simp [TActM.cells] at hu; subst hu; exact g4
      | 5, hu => simp [TActM.cells] at hu; subst hu; exact g5
      | j + 6, hu => simp [TActM.cells] at hu)
    have hspot : a.spot = none := by
      obtain ⟨x, hx0⟩ : ∃ x, l[0]? = some x := ⟨l[0]'(by omega), List.getElem?_eq_getElem (by omega)⟩
      have := (hq 0 x hx0).2 0 _ rfl
      exact World.cell?_spot (by simpa [Addr.add] using this)
    obtain ⟨b, off, spot⟩ := a
    simp only at hspot
    subst hspot
    have hat : ∀ i m, l[i]? = some m → ∀ j u, m.cells[j]? = some u → w.cell? ⟨b, off + i * 6 + j, none⟩ = some u := fun i x hx j u hu => by
      have := (hq i x hx).2 j u hu
      rwa [Go.Addr.add_lit, ← Nat.add_assoc] at this
    refine ⟨l, .inr ⟨b, off, cap0, by rw [hlen], ?_, by omega, fun i m hi => ⟨(hq i m hi).1.1, hat i m hi⟩⟩, fun m hm => by
      obtain ⟨i, hi⟩ := List.mem_iff_getElem?.1 hm
      exact (hq i m hi).1.2⟩
    obtain ⟨x, hx0⟩ : ∃ x, l[0]? = some x := ⟨l[0]'(by omega), List.getElem?_eq_getElem (by omega)⟩
    exact World.block_lt_of_cell? _ _ (hat 0 x hx0 0 _ rfl)
end
end Go.Proofs.YtpenejigebkkmaaGreat
