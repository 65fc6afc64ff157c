/-
  Layer 5: Write, Poke, SetWord, PokeWord of the program.
  Conditions: none. (My own text.)
-/
import Derived.Test.YtpononkgeeahdaaSph
namespace Go.Proofs.Ytpononkgeeahdaa
open Go.RowKit Spm
set_option linter.unusedVariables false
set_option linter.unusedSimpArgs false

theorem SetsE.after {a : Nat} {F : Nat → Prop} {r : List Rg × Int} {w w1 w' : World} {e : Ending} (hb : Below w.heap.size w w1) (h : SetsE a F r w1 e w') : SetsE a F r w e w' :=
  ⟨h.1, h.2.1.mono (fun k hk _ => by have := hb.size; rcases hk with hk | hk; exact .inl hk; exact .inr (by omega)), (Keeps.of_below hb).trans' h.2.2⟩
theorem SetsE.ret {a : Nat} {F : Nat → Prop} {r : List Rg × Int} {w w' : World} {x : Ending} (h : SetsE a F r w x w') : x = .returned (.int .i64 r.2) := h.1
/-- Where the bytes stand that are to be written. -/
def SrcB (w : World) (A : Option Addr) (b : List UInt8) : Prop := b ≠ [] → ∃ bb off, A = some ⟨bb, off, none⟩ ∧ (∀ j x, b[j]? = some x → w.cell? ⟨bb, off + j, none⟩ = some (byC x))

theorem write_any (a : Nat) (F : Nat → Prop) (L : List Rg) (hok : Ok L) (at_ : Int) (hat : at_ ≤ 9223372036854775807) (A : Option Addr) (c : Nat) (b : List UInt8) (hbm : b.length ≤ 9223372036854775807) (w : World) (h : PSp w a F L) (hsrc : SrcB w A b) :
    Calls Try.prog 44 #[.pointer (some ⟨a, 0, none⟩), .int .i64 at_, .slice A b.length c] w (SetsE a F (setS L at_ b 2) w) := by
  have C1 := Lib.hid (set_any a F L hok at_ hat A c b hbm 2 (by unfold OneP; omega) w h hsrc)
  clear hok h hsrc
  generalize setS L at_ b 2 = r at C1 ⊢
  go_enter Try.func44, Try.ntmps44
  go_wp2_with fail
  refine (C1.out).mono ?_
  rintro e w1 ⟨rfl, h1, h2⟩
  have H1 := Lib.hid h1; clear h1
  have H2 := Lib.hid h2; clear h2
  go_wp2
  go_ret
  exact ⟨rfl, H1.out, H2.out⟩

theorem poke_any (a : Nat) (F : Nat → Prop) (L : List Rg) (hok : Ok L) (at_ : Int) (hat : at_ ≤ 9223372036854775807) (A : Option Addr) (c : Nat) (b : List UInt8) (hbm : b.length ≤ 9223372036854775807) (w : World) (h : PSp w a F L) (hsrc : SrcB w A b) :
    Calls Try.prog 39 #[.pointer (some ⟨a, 0, none⟩), .int .i64 at_, .slice A b.length c] w (SetsE a F (setS L at_ b 0) w) := by
  have C1 := Lib.hid (set_any a F L hok at_ hat A c b hbm 0 (by unfold OneP; omega) w h hsrc)
  clear hok h hsrc
  generalize setS L at_ b 0 = r at C1 ⊢
  go_enter Try.func39, Try.ntmps39
  go_wp2_with fail
  refine (C1.out).mono ?_
  rintro e w1 ⟨rfl, h1, h2⟩
  have H1 := Lib.hid h1; clear h1
  have H2 := Lib.hid h2; clear h2
  go_wp2
  go_ret
  exact ⟨rfl, H1.out, H2.out⟩

theorem setWord_any (a : Nat) (F : Nat → Prop) (L : List Rg) (hok : Ok L) (at_ : Int) (hat : at_ ≤ 9223372036854775807) (n : Int) (w : World) (h : PSp w a F L) :
    Calls Try.prog 45 #[.pointer (some ⟨a, 0, none⟩), .int .i64 at_, .int .i64 n] w (SetsE a F (setS L at_ (bytesS n) 2) w) := by
  have C1 := Lib.hid (fun w1 (hb : Below w.heap.size w w1) (hs : SrcB w1 (some ⟨w.heap.size, 0, none⟩) (bytesS n)) => (write_any a F L hok at_ hat (some ⟨w.heap.size, 0, none⟩) 8 (bytesS n) (by show 8 ≤ 9223372036854775807; decide) w1 (h.stay hb) hs).mono fun e w' h' => SetsE.after hb h')
  clear hok h
  have HS : Hid (SrcB (w.alloc (.cells ((bytesS n).map byC).toArray 5)) (some ⟨w.heap.size, 0, none⟩) (bytesS n)) := Lib.hid (fun _ => ⟨_, _, rfl, fun j x hx => by
    rw [World.cell?_alloc_at _ _ _ _ rfl, Nat.zero_add, List.getElem?_toArray, List.getElem?_map, hx]; rfl⟩)
  have hl : (bytesS n).length = 8 := rfl
  rw [hl] at C1
  clear hl
  generalize setS L at_ (bytesS n) 2 = r at C1 ⊢
  have HB := Lib.hid ((Below.refl w.heap.size w).alloc (Nat.le_refl _) (.cells ((bytesS n).map byC).toArray 5))
  have HY := Lib.hid (bytesOf_any n w)
  generalize (w.alloc (.cells ((bytesS n).map byC).toArray 5)) = w1 at HS HB HY
  go_enter Try.func45, Try.ntmps45
  go_wp2_with fail
  refine (HY.out).mono ?_
  rintro e w2 ⟨rfl, rfl⟩
  go_wp2_with fail
  refine (C1.out _ HB.out HS.out).mono ?_
  rintro e w3 ⟨rfl, h1, h2⟩
  have H1 := Lib.hid h1; clear h1
  have H2 := Lib.hid h2; clear h2
  go_wp2
  go_ret
  exact ⟨rfl, H1.out, H2.out⟩

theorem pokeWord_any (a : Nat) (F : Nat → Prop) (L : List Rg) (hok : Ok L) (at_ : Int) (hat : at_ ≤ 9223372036854775807) (n : Int) (w : World) (h : PSp w a F L) :
    Calls Try.prog 27 #[.pointer (some ⟨a, 0, none⟩), .int .i64 at_, .int .i64 n] w (SetsE a F (setS L at_ (bytesS n) 0) w) := by
  have C1 := Lib.hid (fun w1 (hb : Below w.heap.size w w1) (hs : SrcB w1 (some ⟨w.heap.size, 0, none⟩) (bytesS n)) => (poke_any a F L hok at_ hat (some ⟨w.heap.size, 0, none⟩) 8 (bytesS n) (by show 8 ≤ 9223372036854775807; decide) w1 (h.stay hb) hs).mono fun e w' h' => SetsE.after hb h')
  clear hok h
  have HS : Hid (SrcB (w.alloc (.cells ((bytesS n).map byC).toArray 5)) (some ⟨w.heap.size, 0, none⟩) (bytesS n)) := Lib.hid (fun _ => ⟨_, _, rfl, fun j x hx => by
    rw [World.cell?_alloc_at _ _ _ _ rfl, Nat.zero_add, List.getElem?_toArray, List.getElem?_map, hx]; rfl⟩)
  have hl : (bytesS n).length = 8 := rfl
  rw [hl] at C1
  clear hl
  generalize setS L at_ (bytesS n) 0 = r at C1 ⊢
  have HB := Lib.hid ((Below.refl w.heap.size w).alloc (Nat.le_refl _) (.cells ((bytesS n).map byC).toArray 5))
  have HY := Lib.hid (bytesOf_any n w)
  generalize (w.alloc (.cells ((bytesS n).map byC).toArray 5)) = w1 at HS HB HY
  go_enter Try.func27, Try.ntmps27
  go_wp2_with fail
  refine (HY.out).mono ?_
  rintro e w2 ⟨rfl, rfl⟩
  go_wp2_with fail
  refine (C1.out _ HB.out HS.out).mono ?_
  rintro e w3 ⟨rfl, h1, h2⟩
  have H1 := Lib.hid h1; clear h1
  have H2 := Lib.hid h2; clear h2
  go_wp2
  go_ret
  exact ⟨rfl, H1.out, H2.out⟩
end Go.Proofs.Ytpononkgeeahdaa
