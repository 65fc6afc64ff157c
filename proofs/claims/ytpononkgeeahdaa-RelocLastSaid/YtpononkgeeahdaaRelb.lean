/-
  Layer 16: Apply at things that the law owns; the plain laws of RelocLast, RelocCopies, RelocOne.
  Conditions: none. (My own text.)
-/
import Derived.Test.YtpononkgeeahdaaRela
import Derived.Test.YtpononkgeeahdaaSqp
import Derived.Test.YtpononkgeeahdaaSpv
namespace Go.Proofs.Ytpononkgeeahdaa
open Go.RowKit Spm
set_option linter.unusedVariables false
set_option linter.unusedSimpArgs false

/-- THE FRAME, where what the other thing is matters. -/
theorem Has.callY {B : Nat} {w wr : World} {X Y X' : Res} {P : Program} {f : FuncId} {args : Array Value} {R : Ending → World → Prop} [hY : Fr Y] (h : Has B w wr (Star X Y))
    (c : ∀ F G, X wr F → Y wr G → (∀ k, F k → ¬ G k) → (∀ k, F k → B ≤ k) → Calls P f args wr fun e w' => R e w' ∧ Goes X' F wr w') : Calls P f args wr fun e w' => R e w' ∧ Has B w w' (Star X' Y) := by
  obtain ⟨F, ⟨F1, F2, h1, h2, hd, g1, g2⟩, h3⟩ := h.own
  have hh : Has B w wr (Star (fun w' F' => X w' F' ∧ w' = wr ∧ ∀ k, F' k ↔ F1 k) Y) := ⟨⟨F, ⟨F1, F2, ⟨h1, rfl, fun k => Iff.rfl⟩, h2, hd, g1, g2⟩, h3⟩, h.bel, h.le⟩
  refine (c F1 F2 h1 h2 hd (fun k hk => h3 k (g1 k hk))).mono fun e w' ⟨hr, x1, x2⟩ => ⟨hr, ⟨fun k => F k ∨ wr.heap.size ≤ k, ⟨_, fun k => F2 k ∧ k < wr.heap.size, x1, hY.keep (hY.mono h2 (fun k hk hl => ⟨hk, hl⟩)) (fun k hk hl => x2.block k hl (fun a => hd k a hk.1)), fun k a b => ?_, fun k a => ?_, fun k a => .inl (g2 k a.1)⟩, fun k hk => ?_⟩, h.bel.trans (x2.below h.le (fun k hk => h3 k (g1 k hk))), Nat.le_trans h.le x2.size⟩
  · rcases a with a | a
    · exact hd k a b.1
    · omega
  · rcases a with a | a
    · exact .inl (g1 k a)
    · exact .inr a
  · rcases hk with hk | hk
    · exact h3 k hk
    · exact Nat.le_trans h.le hk

/-- Rows that stand where a thing does not. -/
def Away {α : Type} (n : Nat) (cells : α → List Value) (v : Value) (l : List α) (B : Nat) (wr : World) (Y : Res) : Prop := ∀ F G : Nat → Prop, Y wr G → (∀ k, F k → ¬ G k) → (∀ k, F k → B ≤ k) → RowsAt n cells wr (fun k => ¬ F k) v l
theorem Away.own {α : Type} {n : Nat} {cells : α → List Value} {v : Value} {l : List α} {B : Nat} {wr : World} {Z : Res} : Away n cells v l B wr (Star (Rw n cells v l) Z) :=
  fun F G ⟨F1, F2, h1, h2, hd, g1, g2⟩ hG _ => h1.mono fun k hk _ hf => hG k hf (g1 k hk)
theorem Away.right {α : Type} {n : Nat} {cells : α → List Value} {v : Value} {l : List α} {B : Nat} {wr : World} {Y Z : Res} (h : Away n cells v l B wr Z) : Away n cells v l B wr (Star Y Z) :=
  fun F G ⟨F1, F2, h1, h2, hd, g1, g2⟩ hG hB => h F F2 h2 (fun k hf h => hG k hf (g2 k h)) hB
theorem Away.below {α : Type} {n : Nat} {cells : α → List Value} {v : Value} {l : List α} {B : Nat} {w wr : World} {Y : Res} (h : RowsAt n cells w (fun k => k < B) v l) (hb : Below B w wr) : Away n cells v l B wr Y :=
  fun F G _ _ hB => (h.keep (fun k hk _ => hb.block k hk)).mono fun k hk _ hf => by have := hB k hf; omega
theorem Away.nil {α : Type} {n : Nat} {cells : α → List Value} {B : Nat} {wr : World} {Y : Res} : Away n cells (.slice none 0 0) ([] : List α) B wr Y :=
  fun F G _ _ _ => ⟨none, 0, rfl, Nat.le_refl _, Nat.zero_le _, fun i x hx => by simp at hx⟩

theorem own_apply {B : Nat} {w wr : World} {a : Nat} {L : List Rg} {Y : Res} [hY : Fr Y] (h : Has B w wr (Star (Sp a L) Y)) (base : Int) (vr vf : Value) (rs : List Rel) (fs : List Fct) (hfs : ∀ f ∈ fs, f.addr ≤ 9223372036854775807)
    (hr : Away 4 relC vr rs B wr Y) (hf : Away 8 fctC vf fs B wr Y) :
    Calls Try.prog 16 #[.pointer (some ⟨a, 0, none⟩), .int .i64 base, vr, vf] wr fun e w' => e = .returned (.int .i64 (applyS L base rs fs).2) ∧ Has B w w' (Star (Sp a (applyS L base rs fs).1) Y) :=
  h.callY fun F G ⟨h1, ok⟩ h2 hd hB => (apply_any a F L ok base vr vf rs fs hfs wr h1 (hr F G h2 hd hB) (hf F G h2 hd hB)).mono fun _ _ hs => ⟨hs.1, Goes.sets hs (applyS_ok ok _ _ _)⟩

theorem flat_get {α : Type} {n : Nat} {cells : α → List Value} (hc : ∀ x, (cells x).length = n) : ∀ (l : List α) (i : Nat) (x : α), l[i]? = some x → ∀ (j : Nat) (u : Value), (cells x)[j]? = some u → (l.flatMap cells)[i * n + j]? = some u
  | [], i, x, h => by simp at h
  | y :: l, 0, x, h => fun j u hu => by
    simp at h; subst h
    rw [List.flatMap_cons, List.getElem?_append_left (by have := (List.getElem?_eq_some_iff.1 hu).1; omega)]
    simpa using hu
  | y :: l, i + 1, x, h => fun j u hu => by
    have e : (i + 1) * n + j - n = i * n + j := by rw [Nat.add_mul, Nat.one_mul]; omega
    have e2 : n ≤ (i + 1) * n + j := by rw [Nat.add_mul, Nat.one_mul]; omega
    rw [List.flatMap_cons, List.getElem?_append_right (by rw [hc]; exact e2), hc, e]
    exact flat_get hc l i x (by simpa using h) j u hu
/-- A block of rows, made anew. -/
theorem Has.row {α : Type} {B : Nat} {w wr : World} {Y : Res} [Fr Y] (h : Has B w wr Y) (n : Nat) (cells : α → List Value) (hc : ∀ x, (cells x).length = n) (l : List α) (hm : l.length ≤ maxLen) (cs : Array Value) (T : TypeId) (hcs : cs.toList = l.flatMap cells) :
    Has B w (wr.alloc (.cells cs T)) (Star (Rw n cells (.slice (some ⟨wr.heap.size, 0, none⟩) l.length l.length) l) Y) :=
  h.add ((Below.refl _ _).alloc (Nat.le_refl _) _) (RowsAt.of_blk (Blk.new wr T cs) hm (fun i x hx j u hu => by
    have := flat_get hc l i x hx j u hu
    rw [← hcs] at this
    simpa using this) (Nat.le_refl _))

theorem set_err (L : List Rg) (x : Int) (b : List UInt8) (p : Int) : (setS L x b p).2 = if b.length < 1 ∨ 1048576 < b.length then 1 else partS L x b.length p := by
  unfold setS
  split
  · rfl
  · split
    · rfl
    · rename_i h; simp only; simp at h; exact h.symm

/-! RelocLast. -/
def rl : List Rg := (mapAtS [] 4096 64 0).1
theorem rl_1 : (mapAtS [] 4096 64 0).2 = 0 := by decide +kernel
theorem rl_ok : Ok rl := Ok.nil.mapAt _ _ _
theorem rl_part : partS rl 4104 8 0 = 0 := by decide +kernel
theorem rl_set (n : Int) : (setS rl 4104 (bytesS n) 0).2 = 0 := by rw [set_err, show (bytesS n).length = 8 from rfl, rl_part]; rfl
theorem rl_set2 (n m : Int) : (setS (setS rl 4104 (bytesS n) 0).1 4104 (bytesS m) 0).2 = 0 := by
  have h : partS (setS rl 4104 (bytesS n) 0).1 4104 8 0 = 0 := by
    have h1 := get_err_set rl 4104 4104 8 0 0 (bytesS n)
    rw [get_err, get_err] at h1
    have h2 : partS rl 4104 (8 : Int).toNat 0 = 0 := rl_part
    rw [h2] at h1
    exact h1
  rw [set_err, show (bytesS m).length = 8 from rfl, h]; rfl
def rfa (a : Int) : Fct := ⟨0, a, 0, 0, 0, 0, false, false⟩
def rr8 : Rel := ⟨8, 0, 0, 0⟩
theorem rl_apply (a b : Int) (ha : I64 a) (hb : I64 b) : applyS rl 4096 [rr8, rr8] [rfa a, rfa b] = setS (setS rl 4104 (bytesS b) 0).1 4104 (bytesS a) 0 := by
  have h1 : ∀ (L : List Rg) (c : Int), I64 c → oneS L 4096 rr8 (rfa c) = setS L 4104 (bytesS c) 0 := fun L c hc => by
    have e : wordS_ rr8 (rfa c) = (c, 0) := by
      have : wrap64 c = c := by unfold I64 at hc; unfold wrap64; omega
      simp [wordS_, relWord, rr8, rfa, this]
    unfold oneS
    rw [if_neg (by simp [rr8]), e, if_neg (by simp), show wrap64 (4096 + rr8.at_) = 4104 from by show wrap64 (4096 + 8) = 4104; unfold wrap64; omega]
  unfold applyS
  rw [if_neg (by simp)]
  show applyL 4096 [(rr8, rfa b), (rr8, rfa a)] rl = _
  unfold applyL
  simp only [h1 _ _ hb]
  rw [if_neg (by simp [rl_set])]
  unfold applyL
  simp only [h1 _ _ ha]
  rw [if_neg (by simp [rl_set2])]
  unfold applyL
  exact Prod.ext rfl (rl_set2 b a).symm
theorem rl_word (a b : Int) (ha : I64 a) : wordAt (setS (setS rl 4104 (bytesS b) 0).1 4104 (bytesS a) 0).1 4104 0 = (a, 0) := by
  have h := set_get (rl_ok.set 4104 (bytesS b) 0) (rl_set2 b a)
  rw [show (bytesS a).length = 8 from rfl] at h
  unfold wordAt
  have h' : getS (setS (setS rl 4104 (bytesS b) 0).1 4104 (bytesS a) 0).1 4104 8 0 = (bytesS a, 0) := h
  rw [h']
  simp only
  rw [wordS_bytesS a ha.1 ha.2]
theorem apply_one (L : List Rg) (base : Int) (r : Rel) (f : Fct) : applyS L base [r] [f] = oneS L base r f := by
  unfold applyS
  rw [if_neg (by simp)]
  show applyL base [(r, f)] L = _
  unfold applyL
  simp only
  split
  · rfl
  · rename_i h
    unfold applyL
    have h' : (oneS L base r f).2 = 0 := by simpa using h
    exact Prod.ext rfl h'.symm

/-! RelocCopies. -/
theorem copies_law {L : List Rg} (h : Ok L) {x y : Int} {n : Nat} (h1 : 1 ≤ n) (h2 : n ≤ 256) (hx : I64 x) :
    ((getS L y n 0).2 ≠ 0 → applyS L x [⟨0, 2, 0, 0⟩] [⟨0, y, n, 0, 0, 0, false, false⟩] = (L, (getS L y n 0).2)) ∧
    ((getS L y n 0).2 = 0 → applyS L x [⟨0, 2, 0, 0⟩] [⟨0, y, n, 0, 0, 0, false, false⟩] = setS L x (getS L y n 0).1 0 ∧
      ((getS (setS L x (getS L y n 0).1 0).1 x n 0).2 ≠ 0 → (setS L x (getS L y n 0).1 0).2 = (getS (setS L x (getS L y n 0).1 0).1 x n 0).2) ∧
      ((getS (setS L x (getS L y n 0).1 0).1 x n 0).2 = 0 → (setS L x (getS L y n 0).1 0).2 = 0 ∧ (getS (setS L x (getS L y n 0).1 0).1 x n 0).1 = (getS L y n 0).1)) := by
  have hw : wrap64 (x + 0) = x := by unfold I64 at hx; unfold wrap64; omega
  have e : applyS L x [⟨0, 2, 0, 0⟩] [⟨0, y, n, 0, 0, 0, false, false⟩] = if (getS L y n 0).2 ≠ 0 then (L, (getS L y n 0).2) else setS L x (getS L y n 0).1 0 := by
    rw [apply_one]
    unfold oneS
    rw [if_pos rfl]
    unfold copyS
    rw [if_neg (by simp; omega)]
    simp only [hw]
  refine ⟨fun hn => by rw [e, if_pos hn], fun hz => ⟨by rw [e, if_neg (by simp [hz])], ?_⟩⟩
  have hl : (getS L y n 0).1.length = n := by
    have hp : partS L y n 0 = 0 := by
      rw [get_err, if_neg (by omega)] at hz
      simpa using hz
    obtain ⟨r, hr, hrn, _, hin⟩ := partS_ok hp
    obtain ⟨i1, i2⟩ := inside_iff hin
    have := (h.each r (List.mem_of_getElem? hr)).len
    rw [getS_ok h1 (by omega) hp hr]
    simp
    omega
  generalize (getS L y n 0).1 = b at hl ⊢
  have e2 : (getS (setS L x b 0).1 x n 0).2 = (setS L x b 0).2 := by
    rw [get_err_set, get_err, set_err, hl]
    rw [if_neg (by omega), if_neg (by omega), Int.toNat_natCast]
  refine ⟨fun _ => e2.symm, fun hz => ?_⟩
  rw [e2] at hz
  have hg := set_get h hz
  rw [hl] at hg
  exact ⟨hz, by rw [hg]⟩

/-! RelocOne. -/
theorem one_law {L : List Rg} (h : Ok L) {x : Int} {n y : Int} (hn : I64 n) :
    (getS (setS L x (bytesS n) 0).1 y 1 0).2 = (getS L y 1 0).2 ∧
    ((setS L x (bytesS n) 0).2 = 0 → wordAt (setS L x (bytesS n) 0).1 x 0 = (n, 0) ∧ 4096 ≤ x ∧ x ≤ 4294967296) ∧
    ((getS L y 1 0).2 = 0 → 4096 ≤ y ∧ y ≤ 4294967296) ∧
    ((setS L x (bytesS n) 0).2 = 0 → (getS L y 1 0).2 = 0 → (y < x ∨ x + 8 ≤ y) → (getS (setS L x (bytesS n) 0).1 y 1 0).1 = (getS L y 1 0).1) := by
  refine ⟨get_err_set _ _ _ _ _ _ _, fun hz => ?_, fun hz => ?_, fun hz hy hd => set_other h hz hy hd⟩
  · have hg := set_get h hz
    rw [show (bytesS n).length = 8 from rfl] at hg
    have hg' : getS (setS L x (bytesS n) 0).1 x 8 0 = (bytesS n, 0) := hg
    have hb := hz
    rw [set_err, show (bytesS n).length = 8 from rfl, if_neg (by omega)] at hb
    obtain ⟨r, hr, hrn, _, hin⟩ := partS_ok hb
    obtain ⟨i1, i2⟩ := inside_iff hin
    have hr' := h.each r (List.mem_of_getElem? hr)
    have h1 := hr'.lo; have h2 := hr'.hi
    refine ⟨?_, by omega, by omega⟩
    unfold wordAt
    rw [hg']
    simp only
    rw [wordS_bytesS n hn.1 hn.2]
  · have hb := hz
    rw [get_err, if_neg (by omega)] at hb
    obtain ⟨r, hr, hrn, _, hin⟩ := partS_ok hb
    obtain ⟨i1, i2⟩ := inside_iff hin
    have hr' := h.each r (List.mem_of_getElem? hr)
    have h1 := hr'.lo; have h2 := hr'.hi
    omega
theorem wrap64_i64 (n : Int) : I64 (wrap64 n) := by unfold I64 wrap64; omega
theorem relWord_i64 (r : Rel) (f : Fct) (hs : I64 f.size) (hm : I64 f.mod) : I64 (wordS_ r f).1 := by
  have h0 : I64 0 := by unfold I64; omega
  unfold wordS_ relWord
  (repeat' split) <;> first | exact wrap64_i64 _ | assumption | exact h0
end Go.Proofs.Ytpononkgeeahdaa
