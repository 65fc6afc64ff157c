/-
  Layer 7: SymverMatches's walk.
  Conditions: none. (My own text.)
-/
import Derived.Test.YthajdklmklaelaaSyv
import Derived.Test.YthajdklmklaelaaSyh
namespace Go.Proofs.Ythajdklmklaelaa
open Go.RowKit
set_option linter.unusedVariables false
set_option linter.unusedSimpArgs false

/-- A slice of symbols as it comes in. -/
def SymsV (w : World) (v : Value) (l : List SymD) : Prop :=
  (∃ A c, v = .slice A 0 c ∧ l = []) ∨ ∃ b off c, v = .slice (some ⟨b, off, none⟩) l.length c ∧ b < w.heap.size ∧ l.length ≤ maxLen ∧ SymsAt w b off l

theorem SymsAt.keep {w w1 : World} {b off : Nat} {l : List SymD} (h : SymsAt w b off l) {B : Nat} (hb : Below B w w1) (hB : b < B) : SymsAt w1 b off l :=
  fun i x hx j u hu => (hb.cell (p := ⟨b, off + i * 9 + j, none⟩) hB).trans (h i x hx j u hu)
theorem SymsV.keep {w w1 : World} {v : Value} {l : List SymD} (h : SymsV w v l) (hb : Below w.heap.size w w1) : SymsV w1 v l := by
  rcases h with h | ⟨b, off, c, h1, h2, h3, h4⟩
  · exact .inl h
  · exact .inr ⟨b, off, c, h1, Nat.lt_of_lt_of_le h2 hb.size, h3, h4.keep hb h2⟩

theorem versionedV_any (v : Value) (l : List SymD) (w : World) (h : SymsV w v l) : Calls Try.prog 18 #[v] w fun e w' => e = .returned (.bool (verS l)) ∧ Below w.heap.size w w' := by
  rcases h with ⟨A, c, rfl, rfl⟩ | ⟨b, off, c, rfl, h2, h3, h4⟩
  · exact versioned_nil A c w
  · exact versioned_any b off c l w h2 h3 h4
theorem refVersionedV_any (v : Value) (l : List SymD) (w : World) (h : SymsV w v l) : Calls Try.prog 19 #[v] w fun e w' => e = .returned (.bool (verS l)) ∧ w = w' := by
  rcases h with ⟨A, c, rfl, rfl⟩ | ⟨b, off, c, rfl, h2, h3, h4⟩
  · exact refVersioned_nil A c w
  · exact refVersioned_any b off c l w h3 h4

set_option maxHeartbeats 2000000 in
theorem matches_walk (rn rv : ByteArray) (ro rw rd : Bool) (rk ri ra rs : Int) (dn dv : ByteArray) (do_ dw dd : Bool) (dk di da ds : Int) (ver : Bool) (v : Value) (l : List SymD) (w : World) (hv : SymsV w v l) :
    Calls Try.prog 7 #[.agg #[.string rn, .string rv, .bool ro, .int .i64 rk, .bool rw, .int .i64 ri, .bool rd, .int .i64 ra, .int .i64 rs], .agg #[.string dn, .string dv, .bool do_, .int .i64 dk, .bool dw, .int .i64 di, .bool dd, .int .i64 da, .int .i64 ds], .bool ver, v] w fun e w' => e = .returned (.bool true) ∧ Below w.heap.size w w' := by
  have A1 := Lib.hid awake_any
  have c1 := fun w : World => match_any rn rv ro rw rd rk ri ra rs dn dv do_ dw dd dk di da ds ver w
  have c2 := fun w : World => refMatch_any rn rv ro rw rd rk ri ra rs dn dv do_ dw dd dk di da ds ver w
  generalize matchS rn rv dn dv do_ (seenS dd di) ver = m at c1 c2
  have C1 := Lib.hid c1; clear c1
  have C2 := Lib.hid c2; clear c2
  have c3 := fun (w1 : World) (h : SymsV w1 v l) => versionedV_any v l w1 h
  have c4 := fun (w1 : World) (h : SymsV w1 v l) => refVersionedV_any v l w1 h
  generalize verS l = vs at c3 c4
  have C3 := Lib.hid c3; clear c3
  have C4 := Lib.hid c4; clear c4
  have HV := Lib.hid hv; clear hv
  go_enter Try.func7, Try.ntmps7
  go_wp2_with fail
  have r1 : ∀ k, ((w.alloc (.cells #[.string rn, .string rv, .bool ro, .int .i64 rk, .bool rw, .int .i64 ri, .bool rd, .int .i64 ra, .int .i64 rs] 26)).alloc (.cells #[.string dn, .string dv, .bool do_, .int .i64 dk, .bool dw, .int .i64 di, .bool dd, .int .i64 da, .int .i64 ds] 26)).cell? ⟨w.heap.size, k, none⟩ = (#[.string rn, .string rv, .bool ro, .int .i64 rk, .bool rw, .int .i64 ri, .bool rd, .int .i64 ra, .int .i64 rs] : Array Value)[k]? :=
    fun k => (World.cell?_alloc_lt _ _ _ (by simp)).trans (World.cell?_alloc_at _ _ _ _ rfl)
  have r2 : ∀ k, ((w.alloc (.cells #[.string rn, .string rv, .bool ro, .int .i64 rk, .bool rw, .int .i64 ri, .bool rd, .int .i64 ra, .int .i64 rs] 26)).alloc (.cells #[.string dn, .string dv, .bool do_, .int .i64 dk, .bool dw, .int .i64 di, .bool dd, .int .i64 da, .int .i64 ds] 26)).cell? ⟨w.heap.size + 1, k, none⟩ = (#[.string dn, .string dv, .bool do_, .int .i64 dk, .bool dw, .int .i64 di, .bool dd, .int .i64 da, .int .i64 ds] : Array Value)[k]? :=
    fun k => World.cell?_alloc_at _ _ _ _ (by simp)
  have hb0 : Below w.heap.size w ((w.alloc (.cells #[.string rn, .string rv, .bool ro, .int .i64 rk, .bool rw, .int .i64 ri, .bool rd, .int .i64 ra, .int .i64 rs] 26)).alloc (.cells #[.string dn, .string dv, .bool do_, .int .i64 dk, .bool dw, .int .i64 di, .bool dd, .int .i64 da, .int .i64 ds] 26)) :=
    ((Below.refl _ _).alloc (Nat.le_refl _) _).alloc (by simp) _
  have hz : w.heap.size + 1 < ((w.alloc (.cells #[.string rn, .string rv, .bool ro, .int .i64 rk, .bool rw, .int .i64 ri, .bool rd, .int .i64 ra, .int .i64 rs] 26)).alloc (.cells #[.string dn, .string dv, .bool do_, .int .i64 dk, .bool dw, .int .i64 di, .bool dd, .int .i64 da, .int .i64 ds] 26)).heap.size := by simp
  generalize ((w.alloc (.cells #[.string rn, .string rv, .bool ro, .int .i64 rk, .bool rw, .int .i64 ri, .bool rd, .int .i64 ra, .int .i64 rs] 26)).alloc (.cells #[.string dn, .string dv, .bool do_, .int .i64 dk, .bool dw, .int .i64 di, .bool dd, .int .i64 da, .int .i64 ds] 26)) = w1 at r1 r2 hb0 hz ⊢
  have k1 : ∀ (x : Calm w1) (k : Nat), x.now.cell? ⟨w.heap.size, k, none⟩ = (#[.string rn, .string rv, .bool ro, .int .i64 rk, .bool rw, .int .i64 ri, .bool rd, .int .i64 ra, .int .i64 rs] : Array Value)[k]? := fun x k => (x.cell _ _ (by omega)).trans (r1 k)
  have k2 : ∀ (x : Calm w1) (k : Nat), x.now.cell? ⟨w.heap.size + 1, k, none⟩ = (#[.string dn, .string dv, .bool do_, .int .i64 dk, .bool dw, .int .i64 di, .bool dd, .int .i64 da, .int .i64 ds] : Array Value)[k]? := fun x k => (x.cell _ _ (by omega)).trans (r2 k)
  have HB := Lib.hid hb0
  clear r1 r2 hz hb0
  refine wp_region_calm (by kernel_rfl) (by kernel_rfl) ?_
  repeat (first
    | go_big_quiet_skip
    | (go_big_quiet_want
       go_big_quiet_op
       first
         | go_big_quiet_on
         | (apply Exists.intro
            refine ⟨fun _ => ?_, ?_⟩
            · first
                | (go_at_call 10; exact calm_call (A1.out _))
                | (go_at_call 15; exact calm_call (C1.out _))
                | (go_at_call 17; exact calm_call (C2.out _))
                | (go_at_call 18; exact calm_call (C3.out _ (HV.out.keep (HB.out.trans ((Calm.below _).mono HB.out.size)))))
                | (go_at_call 19; exact calm_same (C4.out _ (HV.out.keep (HB.out.trans ((Calm.below _).mono HB.out.size)))))
            go_big_quiet_on)))
  refine wpQuiet_nil ?_
  intro _ hw'
  obtain ⟨⟨w5, hb5⟩, rfl⟩ := hw'
  go_wp2
  go_ret
  exact ⟨by simp, HB.out.trans (hb5.mono HB.out.size)⟩
end Go.Proofs.Ythajdklmklaelaa
