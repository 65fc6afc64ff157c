/-
  Layer 17: a script's acts played (played): the state and the space behind them.
  Conditions: none. (My own text.)
-/
import Derived.Test.YtpenejigebkkmaaTmq
import Derived.Test.YtpenejigebkkmaaSp5
namespace Go.Proofs.Ytpenejigebkkmaa
open Go.RowKit Spm
set_option linter.unusedVariables false
set_option linter.unusedSimpArgs false

structure TActM where
  x : TAct
  A : Option Addr
  c : Nat
def TActM.cells (m : TActM) : List Value := [.int .i64 m.x.d, .int .i64 m.x.n, .int .i64 m.x.th, .int .i64 m.x.sz, .bool m.x.st, .slice m.A m.x.b.length m.c]
structure TActOk (w : World) (B : Nat) (m : TActM) : Prop where
  src : BytesAt w B m.A m.x.b
  len : m.x.b.length ≤ 140737488351232
/-- Acts in a list that came in. -/
def TActsV (w : World) (B : Nat) (v : Value) (l : List TActM) : Prop :=
  (∃ A c, v = .slice A 0 c ∧ l = []) ∨ ∃ b off c, v = .slice (some ⟨b, off, none⟩) l.length c ∧ b < B ∧ l.length ≤ maxLen ∧ ∀ i m, l[i]? = some m → TActOk w B m ∧ ∀ j u, m.cells[j]? = some u → w.cell? ⟨b, off + i * 6 + j, none⟩ = some u
theorem TActsV.at_ {w : World} {B : Nat} {v : Value} {l : List TActM} (h : TActsV w B v l) : ∃ A c, v = .slice A l.length c ∧ l.length ≤ maxLen ∧ ∀ i m, l[i]? = some m → ∃ b off, A = some ⟨b, off, none⟩ ∧ b < B ∧ TActOk w B m ∧ ∀ j u, m.cells[j]? = some u → w.cell? ⟨b, off + i * 6 + j, none⟩ = some u := by
  rcases h with ⟨A, c, rfl, rfl⟩ | ⟨b, off, c, rfl, hb, hm, h⟩
  · exact ⟨A, c, rfl, Nat.zero_le _, fun i m hi => by simp at hi⟩
  · exact ⟨_, c, rfl, hm, fun i m hi => ⟨b, off, rfl, hb, h i m hi⟩⟩
/-- What a script may lead to. -/
inductive PlayT : List TAct → Ts → List Rg → Prop where
  | nil (gm gg gt : Nat) : PlayT [] (ts0 gm gg gt) []
  | snoc {l : List TAct} {t : Ts} {L : List Rg} {x : TAct} {n r : Int} {t' : Ts} {L' : List Rg} : PlayT l t L → DoesT x t L n r t' L' → PlayT (l ++ [x]) t' L'
theorem PlayT.inv {l : List TAct} {t : Ts} {L : List Rg} (h : PlayT l t L) : TInv t := by
  induction h with
  | nil gm gg gt => exact TInv.new gm gg gt
  | snoc _ hd ih => exact ih.does hd
attribute [local irreducible] wpList
set_option maxRecDepth 100000 in
set_option maxHeartbeats 4000000 in
theorem tplayed_any {B : Nat} {w w1 : World} {Y : Res} [hY : Fr Y] (h : Has B w w1 Y) (v : Value) (l : List TActM) (hv : TActsV w B v l) :
    Calls Try.prog 9 #[v] w1 fun e w' => ∃ s a t L, e = .returned (.tuple #[.pointer (some ⟨s, 0, none⟩), .pointer (some ⟨a, 0, none⟩)]) ∧ PlayT (l.map (·.x)) t L ∧ Has B w w' (Tl s t (Star (Sp a L) Y)) := by
  obtain ⟨A, c, rfl, hm, hat⟩ := hv.at_
  unfold maxLen at hm
  have HAT := Lib.hid hat; clear hat hv
  have C1 := Lib.hid (tnew_any h)
  clear h
  go_enter Try.func9, Try.ntmps9
  go_wp2_with fail
  refine (C1.out).mono ?_
  rintro e w2 ⟨s, gm, gg, gt, rfl, m⟩
  have C2 := Lib.hid (own_new m)
  clear m C1
  go_wp2_with fail
  refine (C2.out).mono ?_
  rintro e w3 ⟨a, rfl, m⟩
  have M1 : Hid (∃ t L, PlayT ((l.map (·.x)).take 0) t L ∧ Has B w w3 (Tl s t (Star (Sp a L) Y))) := Lib.hid ⟨_, _, PlayT.nil gm gg gt, m.norm (Tl s (ts0 gm gg gt) (Star (Sp a []) Y))⟩
  clear m C2
  go_wp2_with fail
  go_loopw [6] (fun i wr => ∃ k : Nat, k ≤ l.length ∧ i = .int .i64 k ∧ Hid (∃ t L, PlayT ((l.map (·.x)).take k) t L ∧ Has B w wr (Tl s t (Star (Sp a L) Y)))) (fun i _ => l.length - (intOf i).toNat)
  case atStart => exact ⟨0, Nat.zero_le _, rfl, M1⟩
  case round =>
    obtain ⟨k, hk, rfl, hM⟩ := hrel
    by_cases hlt : k < l.length
    · obtain ⟨t, L, hp, hh⟩ := hM.out
      obtain ⟨m, hmk⟩ : ∃ m, l[k]? = some m := ⟨l[k], List.getElem?_eq_getElem hlt⟩
      obtain ⟨b, off, rfl, hb, hok, hcell⟩ := HAT.out k m hmk
      have c0 : wr.cell? ⟨b, off + k * 6, none⟩ = some (.int .i64 m.x.d) := (hh.bel.cell (p := ⟨b, off + k * 6, none⟩) hb).trans (hcell 0 _ rfl)
      have c1 : wr.cell? ⟨b, off + k * 6 + 1, none⟩ = some (.int .i64 m.x.n) := (hh.bel.cell (p := ⟨b, off + k * 6 + 1, none⟩) hb).trans (hcell 1 _ rfl)
      have c2 : wr.cell? ⟨b, off + k * 6 + 2, none⟩ = some (.int .i64 m.x.th) := (hh.bel.cell (p := ⟨b, off + k * 6 + 2, none⟩) hb).trans (hcell 2 _ rfl)
      have c3 : wr.cell? ⟨b, off + k * 6 + 3, none⟩ = some (.int .i64 m.x.sz) := (hh.bel.cell (p := ⟨b, off + k * 6 + 3, none⟩) hb).trans (hcell 3 _ rfl)
      have c4 : wr.cell? ⟨b, off + k * 6 + 4, none⟩ = some (.bool m.x.st) := (hh.bel.cell (p := ⟨b, off + k * 6 + 4, none⟩) hb).trans (hcell 4 _ rfl)
      have c5 : wr.cell? ⟨b, off + k * 6 + 5, none⟩ = some (.slice m.A m.x.b.length m.c) := (hh.bel.cell (p := ⟨b, off + k * 6 + 5, none⟩) hb).trans (hcell 5 _ rfl)
      have C1 : Hid (Calls Try.prog 25 #[.pointer (some ⟨s, 0, none⟩), .pointer (some ⟨a, 0, none⟩), .agg #[.int .i64 m.x.d, .int .i64 m.x.n, .int .i64 m.x.th, .int .i64 m.x.sz, .bool m.x.st, .slice m.A m.x.b.length m.c]] wr (DoesE s a t L Y B w m.x)) := Lib.hid (tdoes_any hh hp.inv m.x m.A m.c hok.len (fun w' hb' => hok.src.src hb') (fun hne p hp' => by
        obtain ⟨bb, off2, h1, h2, -⟩ := hok.src hne
        rw [h1] at hp'
        cases hp'
        exact h2))
      have HS : Hid ((l.map (·.x)).take (k + 1) = (l.map (·.x)).take k ++ [m.x]) := Lib.hid (by
        rw [List.take_add_one, List.getElem?_map, hmk]; rfl)
      have HPL := Lib.hid hp
      clear hcell hok hmk hp hh hM M1
      go_wp2_with fail
      refine (C1.out).mono ?_
      rintro e w4 ⟨n, r, t', L', hd, rfl, m3⟩
      have M3 : Hid (∃ t L, PlayT ((l.map (·.x)).take (k + 1)) t L ∧ Has B w w4 (Tl s t (Star (Sp a L) Y))) := Lib.hid ⟨t', L', by rw [HS.out]; exact PlayT.snoc HPL.out hd, m3⟩
      clear m3 hd C1
      go_wp2
      go_roundw
      case rel => exact ⟨k + 1, by omega, by go_num, M3⟩
      case measure => simp [intOf]; omega
    · have H1 : Hid (∃ t L, PlayT (l.map (·.x)) t L ∧ Has B w wr (Tl s t (Star (Sp a L) Y))) := Lib.hid (by
        have h := hM.out
        rwa [List.take_of_length_le (by rw [List.length_map]; omega)] at h)
      clear hM M1
      go_wp2
      go_ret2
      obtain ⟨t, L, h1, h2⟩ := H1.out
      exact ⟨s, a, t, L, rfl, h1, h2⟩
end Go.Proofs.Ytpenejigebkkmaa
