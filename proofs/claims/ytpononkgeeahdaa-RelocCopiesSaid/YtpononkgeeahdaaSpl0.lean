/-
  Layer 5: MapAt of the program.
  Conditions: none. (My own text.)
-/
import Derived.Test.YtpononkgeeahdaaSpk
import Derived.Deep.RegionHeld3
import Derived.Deep.RegionWith
import Derived.Deep.DeepCutAuto
import Derived.Laws.MakeOwn
namespace Go.Proofs.Ytpononkgeeahdaa
open Go.RowKit Spm
set_option linter.unusedVariables false
set_option linter.unusedSimpArgs false

theorem right_ne {size p : Int} (h : right size p ≠ 0) : right size p = 1 := by
  unfold right at h ⊢
  split
  · rfl
  · rename_i hc; rw [if_neg hc] at h; exact absurd rfl h
theorem right_eq {size p : Int} (h : right size p = 0) : 1 ≤ size ∧ size ≤ 1048576 ∧ 0 ≤ p ∧ p ≤ 7 := by
  unfold right at h
  split at h
  · cases h
  · omega
def atBad (at_ size : Int) : Prop := at_ < 4096 ∨ at_ % 64 ≠ 0 ∨ 4294967296 - up size < at_

theorem mapAtS_r {L : List Rg} {at_ size p : Int} (h : right size p ≠ 0) : mapAtS L at_ size p = (L, 1) := by unfold mapAtS; rw [if_pos h]
theorem mapAtS_b {L : List Rg} {at_ size p : Int} (h : right size p = 0) (hb : atBad at_ size) : mapAtS L at_ size p = (L, 1) := by unfold atBad at hb; unfold mapAtS; rw [if_neg (by simp [h]), if_pos hb]
theorem mapAtS_m {L : List Rg} {at_ size p : Int} (h : right size p = 0) (hb : ¬ atBad at_ size) (hm : meets L at_ (up size) = true) : mapAtS L at_ size p = (L, 51) := by unfold atBad at hb; unfold mapAtS; rw [if_neg (by simp [h]), if_neg hb, if_pos hm]
theorem mapAtS_ok {L : List Rg} {at_ size p : Int} (h : right size p = 0) (hb : ¬ atBad at_ size) (hm : meets L at_ (up size) = false) : mapAtS L at_ size p = (L.take (insP at_ L) ++ ⟨at_, up size, p, zeros (up size)⟩ :: L.drop (insP at_ L), 0) := by
  unfold atBad at hb; unfold mapAtS; rw [if_neg (by simp [h]), if_neg hb, if_neg (by simp [hm])]

theorem SetsE.same {a : Nat} {F : Nat → Prop} {L : List Rg} {err : Int} {w w' : World} (h : PSp w a F L) (hb : Below w.heap.size w w') : SetsE a F (L, err) w (.returned (.int .i64 err)) w' :=
  ⟨rfl, (h.stay hb).mono (fun k hk _ => .inl hk), Keeps.of_below hb⟩

theorem mapAt_r (a : Nat) (F : Nat → Prop) (L : List Rg) (at_ size p : Int) (hr : right size p ≠ 0) (w : World) (h : PSp w a F L) : Calls Try.prog 15 #[.pointer (some ⟨a, 0, none⟩), .int .i64 at_, .int .i64 size, .int .i64 p] w (SetsE a F (L, 1) w) := by
  have c1 := fun w => right_any size p w
  rw [right_ne hr] at c1
  have C1 := Lib.hid c1
  have H := Lib.hid h
  clear c1 hr h
  go_enter Try.func15, Try.ntmps15
  go_wp2_with fail
  refine (C1.out _).mono ?_
  rintro e w1 ⟨rfl, rfl⟩
  go_wp2
  go_ret
  exact SetsE.same H.out (Below.refl _ _)

set_option maxHeartbeats 1000000 in
set_option maxRecDepth 100000 in
theorem mapAt_b (a : Nat) (F : Nat → Prop) (L : List Rg) (at_ size p : Int) (hr : right size p = 0) (hb : atBad at_ size) (w : World) (h : PSp w a F L) : Calls Try.prog 15 #[.pointer (some ⟨a, 0, none⟩), .int .i64 at_, .int .i64 size, .int .i64 p] w (SetsE a F (L, 1) w) := by
  have c1 := fun w => right_any size p w
  rw [hr] at c1
  have C1 := Lib.hid c1
  have H := Lib.hid h
  obtain ⟨z1, z2, _, _⟩ := right_eq hr
  have C2 := Lib.hid (fun w => up_any size z1 z2 w)
  have hU := up_ge size z1
  have hU2 := up_le size z1 z2
  unfold atBad at hb
  generalize up size = U at C2 hU hU2 hb
  obtain ⟨_, _, hU1, _⟩ := hU
  clear c1 hr h z1 z2
  by_cases h1 : at_ < 4096
  · clear hb
    go_enter Try.func15, Try.ntmps15
    go_wp2_with fail
    refine (C1.out _).mono ?_
    rintro e w1 ⟨rfl, rfl⟩
    go_wp2_with fail
    refine (C2.out _).mono ?_
    rintro e w1 ⟨rfl, rfl⟩
    go_wp2
    go_ret
    exact SetsE.same H.out (Below.refl _ _)
  · by_cases h2 : at_ % 64 = 0
    · have h3 : 4294967296 - U < at_ := by omega
      clear hb
      go_enter Try.func15, Try.ntmps15
      go_wp2_with fail
      refine (C1.out _).mono ?_
      rintro e w1 ⟨rfl, rfl⟩
      go_wp2_with fail
      refine (C2.out _).mono ?_
      rintro e w1 ⟨rfl, rfl⟩
      go_wp2
      go_ret
      exact SetsE.same H.out (Below.refl _ _)
    · clear hb
      go_enter Try.func15, Try.ntmps15
      go_wp2_with fail
      refine (C1.out _).mono ?_
      rintro e w1 ⟨rfl, rfl⟩
      go_wp2_with fail
      refine (C2.out _).mono ?_
      rintro e w1 ⟨rfl, rfl⟩
      go_wp2
      go_ret
      exact SetsE.same H.out (Below.refl _ _)

theorem meets_no_prev {L : List Rg} {at_ n : Int} {j : Nat} {x : Rg} (hk : insP at_ L = j + 1) (hx : L[j]? = some x) (h : at_ < x.at_ + x.sz) : meets L at_ n = true := by
  unfold meets
  rw [hk, Nat.add_sub_cancel, List.getD_eq_getElem?_getD, hx]
  simp [h]
def prevOk (L : List Rg) (at_ : Int) (k : Nat) : Prop := ∀ j x, k = j + 1 → L[j]? = some x → x.at_ + x.sz ≤ at_
theorem meets_next {L : List Rg} {at_ n : Int} {k : Nat} {x : Rg} (hk : insP at_ L = k) (hx : L[k]? = some x) (h : x.at_ < at_ + n) : meets L at_ n = true := by
  have hl := (List.getElem?_eq_some_iff.1 hx).1
  unfold meets
  rw [hk, List.getD_eq_getElem?_getD (l := L) (i := k), hx]
  simp [h, hl]
theorem meets_none {L : List Rg} {at_ n : Int} {k : Nat} (hk : insP at_ L = k) (hp : prevOk L at_ k) (hx : ∀ x, L[k]? = some x → at_ + n ≤ x.at_) : meets L at_ n = false := by
  unfold meets
  rw [hk]
  have h1 : (decide (0 < k) && decide (at_ < (L.getD (k - 1) default).at_ + (L.getD (k - 1) default).sz)) = false := by
    cases k with
    | zero => simp
    | succ j =>
      rw [Nat.add_sub_cancel, List.getD_eq_getElem?_getD]
      cases hj : L[j]? with
      | none =>
        have h1 := insP_le at_ L
        have h2 := List.getElem?_eq_none_iff.1 hj
        omega
      | some x => have := hp j x rfl hj; simp; omega
  have h2 : (decide (k < L.length) && decide ((L.getD k default).at_ < at_ + n)) = false := by
    rw [List.getD_eq_getElem?_getD]
    cases hj : L[k]? with
    | none => have := List.getElem?_eq_none_iff.1 hj; simp; omega
    | some x => have := hx x hj; simp; omega
  rw [h1, h2]; rfl

theorem insert_at {ts : TypeId} {W0 : World} {a : Nat} {v : Value} {Q : List RowP} (hs : Spc ts 67 W0 a v Q) (hn : Q.length ≤ 67108864) (q : RowP) (i : Nat) (hi : i ≤ Q.length) (Z : Array Value) (W : World)
    (hW : W.heap = ((W0.alloc (.cells Z 5)).alloc (.cells (rgC q).toArray 67)).heap) :
    Calls Try.prog 25 #[v, .int .i64 i, .slice (some ⟨W0.heap.size + 1, 0, none⟩) 1 1] W (Inserted W v (Q.length + 1) (putIn (Q.flatMap rgC) (rgC q) (i * 4))) := by
  have hWk : ∀ k, k < W0.heap.size → W.heap[k]? = W0.heap[k]? := fun k hk => by rw [hW, Below.heap_alloc _ _ _ (by simp; omega), Below.heap_alloc _ _ _ hk]
  refine insert_any v Q.length i (W0.heap.size + 1) 1 (Q.flatMap rgC) (rgC q) W (owns_block hs.row (fun g hg => hWk g (hs.lt g (foot_v hg)))) hi hn (fun e => ?_) ?_ rfl (rows_one Q) (by intro u hu; simp only [rgC, List.mem_cons, List.not_mem_nil, or_false] at hu; rcases hu with rfl | rfl | rfl | rfl <;> rfl)
  · have := hs.lt _ (foot_v e); omega
  · rw [hW]; exact Blk.at_ (w := W0.alloc (.cells Z 5)) (by simp)

theorem mapAt_close {W0 w W w2 : World} {a : Nat} {v v' : Value} {Q : List RowP} {F : Nat → Prop} {i : Nat} {Z : Array Value} {at_ p : Int} {u : Nat} (hs : Spc 61 67 W0 a v Q) (hb : Below w.heap.size w W0) (hF : ∀ k ∈ foot a v Q, F k)
    (hZ : Z = madeCells #[.int .u8 0] u) (hu : u ≤ maxLen)
    (hW : W.heap = ((W0.alloc (.cells Z 5)).alloc (.cells #[.int .i64 at_, .int .i64 u, .int .i64 p, .slice (some ⟨W0.heap.size, 0, none⟩) u u] 67)).heap) (ho : W.os = W0.os) (ht : W.tape = W0.tape) (hp : W.output = W0.output)
    (h1 : w2.ownsRow 0 67 4 v' (Q.length + 1) (putIn (Q.flatMap rgC) [.int .i64 at_, .int .i64 u, .int .i64 p, .slice (some ⟨W0.heap.size, 0, none⟩) u u] (i * 4)))
    (h2 : (∃ g, v.ownBlock = some g ∧ v'.ownBlock = some g) ∨ ∃ g, v'.ownBlock = some g ∧ W.heap.size ≤ g) (h3 : Keeps (fun k => v.ownBlock = some k) W w2) :
    SetsE a F ((Q.map (·.1)).take i ++ ⟨at_, u, p, zeros u⟩ :: (Q.map (·.1)).drop i, 0) w (.returned (.int .i64 0)) (w2.setCell ⟨a, 0, none⟩ v') := by
  have hl : (zeros (u : Int)).length = u := by unfold zeros; simp
  have hr : rgC ((⟨at_, u, p, zeros u⟩, W0.heap.size, u) : RowP) = [.int .i64 at_, .int .i64 u, .int .i64 p, .slice (some ⟨W0.heap.size, 0, none⟩) u u] := by unfold rgC; simp only [hl]
  have hZl : Z.toList = (zeros (u : Int)).map byC := by
    rw [hZ, toList_madeCells_one]
    unfold zeros
    rw [List.map_replicate, Int.toNat_natCast]
    rfl
  obtain ⟨s1, s2⟩ := hs.insert (q := (⟨at_, u, p, zeros u⟩, W0.heap.size, u)) (i := i) rfl hl.symm hZl (by show (zeros (u : Int)).length ≤ _; rw [hl]; exact hu) (by rw [hr]; exact hW) (by rw [hr]; exact h1) h2 h3
  have hW0 : Keeps F W0 W := ⟨ho, ht, hp, by rw [hW]; simp; omega, fun k hk _ => by rw [hW, Below.heap_alloc _ _ _ (by simp; omega), Below.heap_alloc _ _ _ hk]⟩
  refine ⟨rfl, ⟨v', _, s1, ?_, fun k hk => ?_⟩, ?_⟩
  · simp [List.map_take, List.map_drop]
  · rcases s2 k hk with h | h
    · exact .inl (hF k h)
    · exact .inr (by have := hb.size; omega)
  · refine (((Keeps.of_below hb).trans' hW0).trans' (h3.mono (fun k hk => hF k (foot_v hk)))).setCell (.inl (hF a foot_a)) _

theorem SetsE.drew {a : Nat} {F : Nat → Prop} {r : List Rg × Int} {w w' : World} {e : Ending} (h : SetsE a F r w e w') : SetsE a F r w e w'.drew := ⟨h.1, h.2.1.keep (fun _ _ _ => rfl), h.2.2.drew⟩

theorem owns_shape {w : World} {base : Nat} {e : TypeId} {size n : Nat} {v : Value} {xs : List Value} (h : w.ownsRow base e size v n xs) : ∃ A c, v = .slice A n c := by
  rcases h.2 with ⟨h1, h2⟩ | ⟨g, cap, cur, h1, _⟩
  · exact ⟨none, 0, by rw [h1, h2]⟩
  · exact ⟨_, _, h1⟩

/-- The box stands; but for the old row all is as it was. -/
abbrev Hold (a : Nat) (v : Value) (W0 w' : World) : Prop := (∀ k_ : Nat, w'.cell? ⟨a, k_, none⟩ = (#[v] : Array Value)[k_]?) ∧ (∀ k_ : Nat, w'.frozen? ⟨a, k_, none⟩ = false) ∧ Blk w' a 61 #[v] ∧ W0.heap.size ≤ w'.heap.size
theorem Hold.of {a : Nat} {v : Value} {W0 w' : World} (h : Blk w' a 61 #[v]) (hz : W0.heap.size ≤ w'.heap.size) : Hold a v W0 w' := ⟨h.cell, h.free, h, hz⟩
theorem Hold.drew {a : Nat} {v : Value} {W0 w' : World} (h : Hold a v W0 w') : Hold a v W0 w'.drew := Hold.of h.2.2.1.drew h.2.2.2
theorem Hold.alloc {a : Nat} {v : Value} {W0 w' : World} (h : Hold a v W0 w') (o : Obj) : Hold a v W0 (w'.alloc o) := Hold.of (h.2.2.1.alloc o) (by have := h.2.2.2; simp; omega)
theorem Hold.keeps {a : Nat} {v : Value} {W0 w' w2 : World} {F : Nat → Prop} (h : Hold a v W0 w') (hk : Keeps F w' w2) (hF : ¬ F a) : Hold a v W0 w2 := Hold.of (h.2.2.1.keeps hk hF) (Nat.le_trans h.2.2.2 hk.size)

end Go.Proofs.Ytpononkgeeahdaa
