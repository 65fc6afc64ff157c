/-
  Layer 5: Does, and Played, of the law.
  Conditions: none. (My own text.)
-/
import Derived.Test.YtpononkgeeahdaaSqa
namespace Go.Proofs.Ytpononkgeeahdaa
open Go.RowKit Spm
set_option linter.unusedVariables false
set_option linter.unusedSimpArgs false

section
variable {B : Nat} {w wr : World} {a : Nat} {L : List Rg}
theorem my_protect (h : Mine B w wr a L) (at_ p : Int) : Calls Try.prog 43 #[.pointer (some ⟨a, 0, none⟩), .int .i64 at_, .int .i64 p] wr (MineE B w a (protectS L at_ p)) :=
  (protect_any a _ L at_ p wr h.sp).mono fun _ _ hs => ⟨hs.1, h.sets hs (h.ok.protect _ _)⟩
theorem my_write (h : Mine B w wr a L) (at_ : Int) (hat : at_ ≤ 9223372036854775807) (A : Option Addr) (c : Nat) (b : List UInt8) (hb : b.length ≤ 9223372036854775807) (hs : SrcB wr A b) : Calls Try.prog 44 #[.pointer (some ⟨a, 0, none⟩), .int .i64 at_, .slice A b.length c] wr (MineE B w a (setS L at_ b 2)) :=
  (write_any a _ L h.ok at_ hat A c b hb wr h.sp hs).mono fun _ _ hs => ⟨hs.1, h.sets hs (h.ok.set _ _ _)⟩
theorem my_poke (h : Mine B w wr a L) (at_ : Int) (hat : at_ ≤ 9223372036854775807) (A : Option Addr) (c : Nat) (b : List UInt8) (hb : b.length ≤ 9223372036854775807) (hs : SrcB wr A b) : Calls Try.prog 39 #[.pointer (some ⟨a, 0, none⟩), .int .i64 at_, .slice A b.length c] wr (MineE B w a (setS L at_ b 0)) :=
  (poke_any a _ L h.ok at_ hat A c b hb wr h.sp hs).mono fun _ _ hs => ⟨hs.1, h.sets hs (h.ok.set _ _ _)⟩
end

theorem Sets2.after {a : Nat} {F : Nat → Prop} {r : List Rg × Int × Int} {w w1 w' : World} {e : Ending} (hb : Below w.heap.size w w1) (h : Sets2 a F r w1 e w') : Sets2 a F r w e w' :=
  ⟨h.1, h.2.1.mono (fun k hk _ => by have := hb.size; rcases hk with hk | hk; exact .inl hk; exact .inr (by omega)), (Keeps.of_below hb).trans' h.2.2⟩
def SetsQ (a : Nat) (F : Nat → Prop) (r : List Rg) (w w' : World) : Prop := PSp w' a (fun k => F k ∨ w.heap.size ≤ k) r ∧ Keeps F w w'

set_option maxRecDepth 100000 in
set_option maxHeartbeats 1000000 in
theorem does_sets {F : Nat → Prop} {wr : World} {a : Nat} {L : List Rg} (h : PSp wr a F L) (hok : Ok L) (m : ActM) (hr : ActRng m.x) (hs : SrcB wr m.A m.x.b) :
    Calls Try.prog 29 #[.pointer (some ⟨a, 0, none⟩), .agg #[.int .i64 m.x.d, .int .i64 m.x.at_, .int .i64 m.x.n, .int .i64 m.x.p, .slice m.A m.x.b.length m.c]] wr (Sets2 a F (doesS L m.x) wr) := by
  obtain ⟨⟨d, at_, n, p, b⟩, A, c⟩ := m
  obtain ⟨⟨_, r1⟩, ⟨_, r2⟩, ⟨_, r3⟩, r4⟩ := hr
  simp only at r1 r2 r3 r4 hs ⊢
  have hb : b.length ≤ 9223372036854775807 := by unfold maxLen at r4; omega
  have hbo : ∀ o, Below wr.heap.size wr (wr.alloc o) := fun o => (Below.refl _ _).alloc (Nat.le_refl _) o
  have hal : ∀ o, PSp (wr.alloc o) a F L := fun o => h.stay (hbo o)
  have hsr : ∀ o, SrcB (wr.alloc o) A b := fun o hn => by
    obtain ⟨bb, off, h1, h2⟩ := hs hn
    exact ⟨bb, off, h1, fun j x hj => Lib.cell?_alloc_some _ (h2 j x hj)⟩
  by_cases h1 : d = 1
  · subst h1
    have C1 := Lib.hid (fun o => (map_any a F L hok n p _ (hal o)).mono fun e w' h' => Sets2.after (hbo o) h')
    rw [show doesS L ⟨1, at_, n, p, b⟩ = mapS L n p from by simp [doesS]]
    generalize mapS L n p = r at C1 ⊢
    clear hal hsr h hs hbo hok
    go_enter Try.func29, Try.ntmps29
    go_wp2_with fail
    refine (C1.out _).mono ?_
    rintro e w1 ⟨rfl, m1, m2⟩
    have M1 := Lib.hid m1; clear m1
    have M2 := Lib.hid m2; clear m2
    go_wp2
    go_ret2
    exact ⟨rfl, M1.out, M2.out⟩
  by_cases h2 : d = 2
  · subst h2
    have C1 := Lib.hid (fun o => (mapAt_any a F L hok at_ n p _ (hal o)).mono fun e w' h' => SetsE.after (hbo o) h')
    rw [show doesS L ⟨2, at_, n, p, b⟩ = ((mapAtS L at_ n p).1, 0, (mapAtS L at_ n p).2) from by simp [doesS]]
    generalize mapAtS L at_ n p = r at C1 ⊢
    clear hal hsr h hs hbo hok
    go_enter Try.func29, Try.ntmps29
    go_wp2_with fail
    refine (C1.out _).mono ?_
    rintro e w1 ⟨rfl, m1, m2⟩
    have M1 := Lib.hid m1; clear m1
    have M2 := Lib.hid m2; clear m2
    go_wp2
    go_ret2
    exact ⟨rfl, M1.out, M2.out⟩
  by_cases h3 : d = 3
  · subst h3
    have C1 := Lib.hid (fun o => (unmap_any a F L hok at_ _ (hal o)).mono fun e w' h' => SetsE.after (hbo o) h')
    rw [show doesS L ⟨3, at_, n, p, b⟩ = ((unmapS L at_).1, 0, (unmapS L at_).2) from by simp [doesS]]
    generalize unmapS L at_ = r at C1 ⊢
    clear hal hsr h hs hbo hok
    go_enter Try.func29, Try.ntmps29
    go_wp2_with fail
    refine (C1.out _).mono ?_
    rintro e w1 ⟨rfl, m1, m2⟩
    have M1 := Lib.hid m1; clear m1
    have M2 := Lib.hid m2; clear m2
    go_wp2
    go_ret2
    exact ⟨rfl, M1.out, M2.out⟩
  by_cases h4 : d = 4
  · subst h4
    have C1 := Lib.hid (fun o => (protect_any a F L at_ p _ (hal o)).mono fun e w' h' => SetsE.after (hbo o) h')
    rw [show doesS L ⟨4, at_, n, p, b⟩ = ((protectS L at_ p).1, 0, (protectS L at_ p).2) from by simp [doesS]]
    generalize protectS L at_ p = r at C1 ⊢
    clear hal hsr h hs hbo hok
    go_enter Try.func29, Try.ntmps29
    go_wp2_with fail
    refine (C1.out _).mono ?_
    rintro e w1 ⟨rfl, m1, m2⟩
    have M1 := Lib.hid m1; clear m1
    have M2 := Lib.hid m2; clear m2
    go_wp2
    go_ret2
    exact ⟨rfl, M1.out, M2.out⟩
  by_cases h5 : d = 5
  · subst h5
    have C1 := Lib.hid (fun o => (write_any a F L hok at_ r1 A c b hb _ (hal o) (hsr o)).mono fun e w' h' => SetsE.after (hbo o) h')
    rw [show doesS L ⟨5, at_, n, p, b⟩ = ((setS L at_ b 2).1, 0, (setS L at_ b 2).2) from by simp [doesS]]
    generalize setS L at_ b 2 = r at C1 ⊢
    clear hal hsr h hs hbo hok
    go_enter Try.func29, Try.ntmps29
    go_wp2_with fail
    refine (C1.out _).mono ?_
    rintro e w1 ⟨rfl, m1, m2⟩
    have M1 := Lib.hid m1; clear m1
    have M2 := Lib.hid m2; clear m2
    go_wp2
    go_ret2
    exact ⟨rfl, M1.out, M2.out⟩
  by_cases h6 : d = 6
  · subst h6
    have C1 := Lib.hid (fun o => (poke_any a F L hok at_ r1 A c b hb _ (hal o) (hsr o)).mono fun e w' h' => SetsE.after (hbo o) h')
    rw [show doesS L ⟨6, at_, n, p, b⟩ = ((setS L at_ b 0).1, 0, (setS L at_ b 0).2) from by simp [doesS]]
    generalize setS L at_ b 0 = r at C1 ⊢
    clear hal hsr h hs hbo hok
    go_enter Try.func29, Try.ntmps29
    go_wp2_with fail
    refine (C1.out _).mono ?_
    rintro e w1 ⟨rfl, m1, m2⟩
    have M1 := Lib.hid m1; clear m1
    have M2 := Lib.hid m2; clear m2
    go_wp2
    go_ret2
    exact ⟨rfl, M1.out, M2.out⟩
  by_cases h7 : d = 7
  · subst h7
    have C1 := Lib.hid (fun o => (setWord_any a F L hok at_ r1 n _ (hal o)).mono fun e w' h' => SetsE.after (hbo o) h')
    rw [show doesS L ⟨7, at_, n, p, b⟩ = ((setS L at_ (bytesS n) 2).1, 0, (setS L at_ (bytesS n) 2).2) from by simp [doesS]]
    generalize setS L at_ (bytesS n) 2 = r at C1 ⊢
    clear hal hsr h hs hbo hok
    go_enter Try.func29, Try.ntmps29
    go_wp2_with fail
    refine (C1.out _).mono ?_
    rintro e w1 ⟨rfl, m1, m2⟩
    have M1 := Lib.hid m1; clear m1
    have M2 := Lib.hid m2; clear m2
    go_wp2
    go_ret2
    exact ⟨rfl, M1.out, M2.out⟩
  by_cases h8 : d = 8
  · subst h8
    have C1 := Lib.hid (fun o => (pokeWord_any a F L hok at_ r1 n _ (hal o)).mono fun e w' h' => SetsE.after (hbo o) h')
    rw [show doesS L ⟨8, at_, n, p, b⟩ = ((setS L at_ (bytesS n) 0).1, 0, (setS L at_ (bytesS n) 0).2) from by simp [doesS]]
    generalize setS L at_ (bytesS n) 0 = r at C1 ⊢
    clear hal hsr h hs hbo hok
    go_enter Try.func29, Try.ntmps29
    go_wp2_with fail
    refine (C1.out _).mono ?_
    rintro e w1 ⟨rfl, m1, m2⟩
    have M1 := Lib.hid m1; clear m1
    have M2 := Lib.hid m2; clear m2
    go_wp2
    go_ret2
    exact ⟨rfl, M1.out, M2.out⟩
  rw [show doesS L ⟨d, at_, n, p, b⟩ = (L, 0, 0) from by simp [doesS, *]]
  have HAL := Lib.hid (fun o => Sets2.same (n := 0) (err := 0) h (hbo o)); clear hal hsr h hs hbo hok
  have e1 : (d == 1) = false := beq_eq_false_iff_ne.2 h1
  have e2 : (d == 2) = false := beq_eq_false_iff_ne.2 h2
  have e3 : (d == 3) = false := beq_eq_false_iff_ne.2 h3
  have e4 : (d == 4) = false := beq_eq_false_iff_ne.2 h4
  have e5 : (d == 5) = false := beq_eq_false_iff_ne.2 h5
  have e6 : (d == 6) = false := beq_eq_false_iff_ne.2 h6
  have e7 : (d == 7) = false := beq_eq_false_iff_ne.2 h7
  have e8 : (d == 8) = false := beq_eq_false_iff_ne.2 h8
  go_enter Try.func29, Try.ntmps29
  go_wp2
  go_ret2
  exact HAL.out _

theorem does_any {B : Nat} {w wr : World} {a : Nat} {L : List Rg} (h : Mine B w wr a L) (m : ActM) (hr : ActRng m.x) (hs : SrcB wr m.A m.x.b) :
    Calls Try.prog 29 #[.pointer (some ⟨a, 0, none⟩), .agg #[.int .i64 m.x.d, .int .i64 m.x.at_, .int .i64 m.x.n, .int .i64 m.x.p, .slice m.A m.x.b.length m.c]] wr (Mine2 B w a (doesS L m.x)) :=
  (does_sets h.sp h.ok m hr hs).mono fun _ _ hs => ⟨hs.1, h.sets2 hs (doesS_ok h.ok _)⟩

theorem BytesAt.stay {w w1 : World} {B B1 : Nat} {A : Option Addr} {b : List UInt8} (h : BytesAt w B A b) (hb : Below B w w1) (hB : B ≤ B1) : BytesAt w1 B1 A b := fun hn => by
  obtain ⟨bb, off, h1, h2, h3⟩ := h hn
  exact ⟨bb, off, h1, Nat.lt_of_lt_of_le h2 hB, fun j x hj => (hb.cell (p := ⟨bb, off + j, none⟩) h2).trans (h3 j x hj)⟩
theorem ActsV.stay {w w1 : World} {B B1 : Nat} {v : Value} {l : List ActM} (h : ActsV w B v l) (hb : Below B w w1) (hB : B ≤ B1) : ActsV w1 B1 v l := by
  rcases h with h | ⟨b, off, c, rfl, h1, h2, h3⟩
  · exact .inl h
  · exact .inr ⟨b, off, c, rfl, Nat.lt_of_lt_of_le h1 hB, h2, fun i m hi => ⟨⟨(h3 i m hi).1.rng, (h3 i m hi).1.src.stay hb hB⟩, fun j u hu => (hb.cell (p := ⟨b, off + i * 5 + j, none⟩) h1).trans ((h3 i m hi).2 j u hu)⟩⟩
theorem ActsV.at_ {w : World} {B : Nat} {v : Value} {l : List ActM} (h : ActsV w B v l) : ∃ A c, v = .slice A l.length c ∧ l.length ≤ maxLen ∧ ∀ i m, l[i]? = some m → ∃ b off, A = some ⟨b, off, none⟩ ∧ b < B ∧ ActOk w B m ∧ ∀ j u, m.cells[j]? = some u → w.cell? ⟨b, off + i * 5 + j, none⟩ = some u := by
  rcases h with ⟨A, c, rfl, rfl⟩ | ⟨b, off, c, rfl, hb, hm, h⟩
  · exact ⟨A, c, rfl, Nat.zero_le _, fun i m hi => by simp at hi⟩
  · exact ⟨_, c, rfl, hm, fun i m hi => ⟨b, off, rfl, hb, h i m hi⟩⟩

set_option maxRecDepth 100000 in
set_option maxHeartbeats 1000000 in
theorem played_any {B : Nat} {w w1 : World} (hbel : Below B w w1) (hle : B ≤ w1.heap.size) (v : Value) (l : List ActM) (hv : ActsV w B v l) :
    Calls Try.prog 18 #[v] w1 fun e w' => ∃ a, e = .returned (.pointer (some ⟨a, 0, none⟩)) ∧ Mine B w w' a (playS [] (l.map (·.x))) := by
  obtain ⟨A, c, rfl, hm, hat⟩ := hv.at_
  unfold maxLen at hm
  have HAT := Lib.hid hat; clear hat hv
  have HB := Lib.hid (And.intro hbel hle); clear hbel hle
  go_enter Try.func18, Try.ntmps18
  go_wp2_with fail
  refine (new_any _).mono ?_
  rintro e w2 ⟨rfl, h1, h2⟩
  have M1 : Hid (Mine B w w2 w1.heap.size (playS [] ((l.map (·.x)).take 0))) := Lib.hid (Mine.new HB.out.1 HB.out.2 h1 h2); clear h1 h2
  generalize w1.heap.size = a at M1 ⊢
  go_wp2_with fail
  go_loopw [4] (fun i wr => ∃ k : Nat, k ≤ l.length ∧ i = .int .i64 k ∧ Hid (Mine B w wr a (playS [] ((l.map (·.x)).take k)))) (fun i _ => l.length - (intOf i).toNat)
  case atStart => exact ⟨0, Nat.zero_le _, rfl, M1⟩
  case round =>
    obtain ⟨k, hk, rfl, hM⟩ := hrel
    by_cases hlt : k < l.length
    · obtain ⟨m, hmk⟩ : ∃ m, l[k]? = some m := ⟨l[k], List.getElem?_eq_getElem hlt⟩
      obtain ⟨b, off, rfl, hb, hok, hcell⟩ := HAT.out k m hmk
      have c0 : wr.cell? ⟨b, off + k * 5, none⟩ = some (.int .i64 m.x.d) := (hM.out.bel.cell (p := ⟨b, off + k * 5, none⟩) hb).trans (hcell 0 _ rfl)
      have c1 : wr.cell? ⟨b, off + k * 5 + 1, none⟩ = some (.int .i64 m.x.at_) := (hM.out.bel.cell (p := ⟨b, off + k * 5 + 1, none⟩) hb).trans (hcell 1 _ rfl)
      have c2 : wr.cell? ⟨b, off + k * 5 + 2, none⟩ = some (.int .i64 m.x.n) := (hM.out.bel.cell (p := ⟨b, off + k * 5 + 2, none⟩) hb).trans (hcell 2 _ rfl)
      have c3 : wr.cell? ⟨b, off + k * 5 + 3, none⟩ = some (.int .i64 m.x.p) := (hM.out.bel.cell (p := ⟨b, off + k * 5 + 3, none⟩) hb).trans (hcell 3 _ rfl)
      have c4 : wr.cell? ⟨b, off + k * 5 + 4, none⟩ = some (.slice m.A m.x.b.length m.c) := (hM.out.bel.cell (p := ⟨b, off + k * 5 + 4, none⟩) hb).trans (hcell 4 _ rfl)
      have C1 := Lib.hid (does_any hM.out m hok.rng (hok.src.src hM.out.bel))
      have HS := Lib.hid (playS_snoc [] (l.map (·.x)) k m.x (by rw [List.getElem?_map, hmk]; rfl))
      clear hcell hok hmk
      go_wp2_with fail
      refine (C1.out).mono ?_
      rintro e w3 ⟨rfl, m3⟩
      have M3 : Hid (Mine B w w3 a (playS [] ((l.map (·.x)).take (k + 1)))) := Lib.hid (by rw [HS.out]; exact m3)
      clear m3
      go_wp2
      go_roundw
      case rel => exact ⟨k + 1, by omega, by go_num, M3⟩
      case measure => simp [intOf]; omega
    · have H1 : Hid (Mine B w wr a (playS [] (l.map (·.x)))) := Lib.hid (by
        have h := hM.out
        rwa [List.take_of_length_le (by rw [List.length_map]; omega)] at h)
      go_wp2
      go_ret
      exact ⟨a, rfl, H1.out⟩
end Go.Proofs.Ytpononkgeeahdaa
