/-
  Layer 5: Protect of the program.
  Conditions: none. (My own text.)
-/
import Derived.Test.YtpononkgeeahdaaSpn
namespace Go.Proofs.Ytpononkgeeahdaa
open Go.RowKit Spm
set_option linter.unusedVariables false
set_option linter.unusedSimpArgs false

def setP (q : RowP) (p : Int) : RowP := ({ q.1 with pm := p }, q.2)
theorem rows_setP (p : Int) : ∀ (Q : List RowP) (k : Nat), k < Q.length → (Q.flatMap rgC).set (k * 4 + 2) (.int .i64 p) = (Q.modify k (setP · p)).flatMap rgC
  | [], k, h => by simp at h
  | q :: Q, 0, _ => by simp [List.flatMap_cons, rgC, setP]
  | q :: Q, k + 1, h => by
    have ih := rows_setP p Q k (by simpa using h)
    have e : (k + 1) * 4 + 2 = (rgC q).length + (k * 4 + 2) := by show (k + 1) * 4 + 2 = 4 + (k * 4 + 2); omega
    rw [List.flatMap_cons, List.modify_succ_cons, List.flatMap_cons, ← ih, e, List.set_append_right _ _ (by omega), Nat.add_sub_cancel_left]
theorem foot_setP (a : Nat) (v : Value) (Q : List RowP) (k : Nat) (p : Int) : foot a v (Q.modify k (setP · p)) = foot a v Q := by
  unfold foot
  rw [map_modify_same (fun q : RowP => q.2.1) (setP · p) (fun _ => rfl)]

theorem Spc.protect {ts tr : TypeId} {w : World} {a g n c : Nat} {Q : List RowP} (h : Spc ts tr w a (.slice (some ⟨g, 0, none⟩) n c) Q) (hn : n = Q.length) {k : Nat} (hk : k < Q.length) (p : Int) :
    Spc ts tr (w.setCell ⟨g, k * 4 + 2, none⟩ (.int .i64 p)) a (.slice (some ⟨g, 0, none⟩) n c) (Q.modify k (setP · p)) := by
  subst hn
  refine ⟨h.box.other (p := ⟨g, k * 4 + 2, none⟩) (nodup_av h.nd rfl) _, ?_, ?_, ?_⟩
  · rw [← rows_setP p Q k hk, List.length_modify]
    exact (h.row.stored _ _).1
  · intro x hx
    have key : ∀ y ∈ Q, Bys (w.setCell ⟨g, k * 4 + 2, none⟩ (.int .i64 p)) 0 (byV y) y.1.bs := fun y hy => owns_block (h.each y hy) (fun b hb => by
      simp [byV, Value.ownBlock] at hb
      subst hb
      exact Below.heap_setCell _ _ _ _ (fun e => nodup_v h.nd hy rfl e.symm))
    rcases mem_modify hx with ⟨y, hy, rfl⟩ | ⟨i, hi, hxi⟩
    · exact key y (List.mem_of_getElem? hy)
    · exact key x (List.mem_of_getElem? hxi)
  · rw [foot_setP]; exact h.nd

theorem right1 (p : Int) : right 1 p = if p < 0 ∨ 7 < p then 1 else 0 := by
  unfold right
  by_cases h : p < 0 ∨ 7 < p
  · rw [if_pos (by omega), if_pos h]
  · rw [if_neg (by omega), if_neg h]

set_option maxHeartbeats 1000000 in
theorem protect_any (a : Nat) (F : Nat → Prop) (L : List Rg) (at_ p : Int) (w : World) (h : PSp w a F L) : Calls Try.prog 43 #[.pointer (some ⟨a, 0, none⟩), .int .i64 at_, .int .i64 p] w (SetsE a F (protectS L at_ p) w) := by
  have c1 := fun w => right_any 1 p w
  rw [right1] at c1
  by_cases hp : p < 0 ∨ 7 < p
  · have e : protectS L at_ p = (L, 1) := by unfold protectS; rw [if_pos hp]
    rw [e]
    rw [if_pos hp] at c1
    have C1 := Lib.hid c1
    have H := Lib.hid h
    clear c1 h e hp
    go_enter Try.func43, Try.ntmps43
    go_wp2_with fail
    refine (C1.out _).mono ?_
    rintro e w1 ⟨rfl, rfl⟩
    go_wp2
    go_ret
    exact SetsE.same H.out (Below.refl _ _)
  · rw [if_neg hp] at c1
    have C1 := Lib.hid c1; clear c1
    have c2 := find_any a F L at_ w h
    by_cases hf : findS L at_ < L.length
    · have e : protectS L at_ p = (L.modify (findS L at_) (fun r => { r with pm := p }), 0) := by unfold protectS; rw [if_neg hp, if_pos hf]
      rw [e]
      have e1 : findI L at_ = findS L at_ := by unfold findI; rw [if_pos hf]
      have e2 : findE L at_ = 0 := by unfold findE; rw [if_pos hf]
      rw [e1, e2] at c2
      have C2 := Lib.hid c2; clear c2 e1 e2 e
      obtain ⟨v, Q, hs, rfl, hF⟩ := h
      generalize hk : findS (Q.map (·.1)) at_ = k at C2 hf ⊢
      rw [List.length_map] at hf
      have hm' : (Q.map (·.1)).modify k (fun r => { r with pm := p }) = (Q.modify k (setP · p)).map (·.1) := by
        rw [map_modify (fun q : RowP => q.1) (setP · p) (fun r => { r with pm := p }) (fun _ => rfl)]
      rw [hm']
      obtain ⟨A, cap, rfl, hc0, hcap, hm, hrow⟩ := hs.cells
      obtain ⟨q, hq⟩ : ∃ q, Q[k]? = some q := ⟨Q[k], List.getElem?_eq_getElem hf⟩
      obtain ⟨g, rfl, hg, hcell⟩ := hrow k q hq
      have hbox := hs.box.lt
      have HF : Hid (∀ w1, Below w.heap.size w w1 → SetsE a F ((Q.modify k (setP · p)).map (·.1), 0) w (.returned (.int .i64 0)) (w1.setCell ⟨g, k * 4 + 2, none⟩ (.int .i64 p))) := Lib.hid (fun w1 hb =>
        ⟨rfl, ⟨_, _, (hs.keep (fun k hk => hb.block k (hs.lt k hk))).protect rfl hf p, rfl, fun k hk => .inl (hF k (by rwa [foot_setP] at hk))⟩, (Keeps.of_below hb).setCell (.inl (hF g (foot_v rfl))) _⟩)
      have HFz : Hid (∀ j, w.frozen? ⟨g, j, none⟩ = false) := Lib.hid (fun j => hs.row.frozenAt j)
      have hc2 : w.cell? ⟨g, k * 4 + 2, none⟩ = some (.int .i64 q.1.pm) := hcell 2 _ rfl
      unfold maxLen at hm
      clear hq hcell hrow hs hF hk hm' hp
      have HC0 := Lib.hid hc0; clear hc0
      have HC2 := Lib.hid hc2; clear hc2
      go_enter Try.func43, Try.ntmps43
      go_wp2_with fail
      refine (C1.out _).mono ?_
      rintro e w1 ⟨rfl, rfl⟩
      go_wp2_with fail
      refine (C2.out).mono ?_
      rintro e w1 ⟨rfl, h1⟩
      have b0 : w1.cell? ⟨a, 0, none⟩ = some (.slice (some ⟨g, 0, none⟩) Q.length cap) := (h1.cell (p := ⟨a, 0, none⟩) hbox).trans HC0.out
      have b2 : w1.cell? ⟨g, k * 4 + 2, none⟩ = some (.int .i64 q.1.pm) := (h1.cell (p := ⟨g, k * 4 + 2, none⟩) hg).trans HC2.out
      have b3 : w1.frozen? ⟨g, k * 4 + 2, none⟩ = false := (h1.frozen (p := ⟨g, k * 4 + 2, none⟩) hg).trans (HFz.out _)
      have H1 := Lib.hid h1; clear h1
      go_wp2
      go_ret
      exact HF.out _ H1.out
    · have e : protectS L at_ p = (L, 50) := by unfold protectS; rw [if_neg hp, if_neg hf]
      rw [e]
      have e1 : findI L at_ = 0 := by unfold findI; rw [if_neg hf]
      have e2 : findE L at_ = 50 := by unfold findE; rw [if_neg hf]
      rw [e1, e2] at c2
      have C2 := Lib.hid c2
      have H := Lib.hid h
      clear c2 e1 e2 e h hf hp
      go_enter Try.func43, Try.ntmps43
      go_wp2_with fail
      refine (C1.out _).mono ?_
      rintro e w1 ⟨rfl, rfl⟩
      go_wp2_with fail
      refine (C2.out).mono ?_
      rintro e w1 ⟨rfl, h1⟩
      have H1 := Lib.hid h1; clear h1
      go_wp2
      go_ret
      exact SetsE.same H.out H1.out
end Go.Proofs.Ytpononkgeeahdaa
