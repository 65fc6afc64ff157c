/-
  Layer 4, plain: a line comes back from its instruction, an instruction from its line; bytes and instructions; texts and lines.
  Conditions: none. (My own text.)
-/
import Derived.Test.YtmbacegbcccdjaaDoorKnl
import Derived.Test.YtmbacegbcccdjaaDoorKni
import Derived.Test.YtmbacegbcccdjaaDoorCdc
namespace Go.Proofs.YtmbacegbcccdjaaDoor
open Go.RowKit Go.Lib
set_option linter.unusedVariables false
set_option linter.unusedSimpArgs false

/-! ### Pieces between a byte -/
theorem cutS_app (c : UInt8) : ∀ (p r : List UInt8), c ∉ p → cutS c (p ++ c :: r) = p :: cutS c r
  | [], r, _ => by
    rw [List.nil_append]
    conv => lhs; unfold cutS
    rw [if_pos rfl]
  | x :: p, r, h => by
    have hx : x ≠ c := fun e => h (e ▸ List.mem_cons_self ..)
    have ih := cutS_app c p r (fun e => h (List.mem_cons_of_mem _ e))
    rw [List.cons_append]
    conv => lhs; unfold cutS
    rw [if_neg hx, ih]
theorem cutS_one (c : UInt8) : ∀ (p : List UInt8), c ∉ p → cutS c p = [p]
  | [], _ => rfl
  | x :: p, h => by
    have hx : x ≠ c := fun e => h (e ▸ List.mem_cons_self ..)
    have ih := cutS_one c p (fun e => h (List.mem_cons_of_mem _ e))
    unfold cutS
    rw [if_neg hx, ih]
theorem cutS_words (c : UInt8) : ∀ (ws : List (List UInt8)) (p : List UInt8), c ∉ p → (∀ w ∈ ws, c ∉ w) → cutS c (p ++ ws.flatMap (fun w => c :: w)) = p :: ws
  | [], p, hp, _ => by simpa using cutS_one c p hp
  | w :: r, p, hp, h => by
    have ih := cutS_words c r w (h w (List.mem_cons_self ..)) (fun v hv => h v (List.mem_cons_of_mem _ hv))
    rw [List.flatMap_cons, List.cons_append, cutS_app c p _ hp, ih]
/-- The pieces, joined again. -/
def joinS (c : UInt8) : List (List UInt8) → List UInt8
  | [] => []
  | p :: r => p ++ r.flatMap (fun w => c :: w)
theorem joinS_cons (c : UInt8) (p : List UInt8) (r : List (List UInt8)) : joinS c (p :: r) = p ++ r.flatMap (fun w => c :: w) := rfl
theorem joinS_cut (c : UInt8) : ∀ l : List UInt8, joinS c (cutS c l) = l
  | [] => rfl
  | x :: t => by
    have ih := joinS_cut c t
    unfold cutS
    cases hk : cutS c t with
    | nil => exact absurd hk (cutS_ne c t)
    | cons p r =>
      rw [hk] at ih
      rw [joinS_cons] at ih
      by_cases hx : x = c
      · subst hx
        rw [if_pos rfl, joinS_cons, List.flatMap_cons, List.nil_append, List.cons_append, ih]
      · rw [if_neg hx]
        simp only [joinS_cons, List.cons_append, ih]
theorem cutS_no (c : UInt8) : ∀ (l : List UInt8) (p : List UInt8), p ∈ cutS c l → c ∉ p
  | [], p, h => by
    simp only [cutS, List.mem_singleton] at h
    subst h; simp
  | x :: t, p, h => by
    have ih := cutS_no c t
    unfold cutS at h
    by_cases hx : x = c
    · rw [if_pos hx] at h
      rcases List.mem_cons.1 h with rfl | h1
      · simp
      · exact ih p h1
    · rw [if_neg hx] at h
      cases hk : cutS c t with
      | nil => exact absurd hk (cutS_ne c t)
      | cons a b =>
        rw [hk] at h ih
        rcases List.mem_cons.1 h with rfl | h1
        · intro hm
          rcases List.mem_cons.1 hm with e | e
          · exact hx e.symm
          · exact ih a (List.mem_cons_self ..) e
        · exact ih p (List.mem_cons_of_mem _ h1)
/-- Lines with their ends. -/
def endS (c : UInt8) (ps : List (List UInt8)) : List UInt8 := ps.flatMap (fun p => p ++ [c])
theorem flat_shift (c : UInt8) : ∀ (r : List (List UInt8)) (p : List UInt8), p ++ [c] ++ endS c r = p ++ r.flatMap (fun w => c :: w) ++ [c]
  | [], p => by simp [endS]
  | w :: r, p => by
    have ih := flat_shift c r w
    unfold endS at ih ⊢
    rw [List.flatMap_cons, List.flatMap_cons, List.append_assoc, ih]
    simp [List.append_assoc]
theorem endS_join (c : UInt8) {ps : List (List UInt8)} (h : ps ≠ []) : endS c ps = joinS c ps ++ [c] := by
  cases ps with
  | nil => exact absurd rfl h
  | cons p r =>
    have := flat_shift c r p
    unfold endS at this ⊢
    unfold joinS
    rw [List.flatMap_cons]
    exact this
theorem cutS_join (c : UInt8) {ps : List (List UInt8)} (h : ps ≠ []) (hn : ∀ p ∈ ps, c ∉ p) : cutS c (joinS c ps) = ps := by
  cases ps with
  | nil => exact absurd rfl h
  | cons p r => exact cutS_words c r p (hn p (List.mem_cons_self ..)) (fun w hw => hn w (List.mem_cons_of_mem _ hw))
theorem trimS_end (u : List UInt8) : trimS (u ++ [10]) = u := by
  unfold trimS trimSuffix
  rw [if_pos (by unfold hasSuffix; simp)]
  simp
theorem trimS_cases (t : List UInt8) : trimS t = t ∨ t = trimS t ++ [10] := by
  by_cases h : ∃ u, t = u ++ [10]
  · obtain ⟨u, rfl⟩ := h
    exact .inr (by rw [trimS_end])
  · refine .inl ?_
    unfold trimS trimSuffix
    rw [if_neg]
    intro e
    unfold hasSuffix at e
    obtain ⟨u, hu⟩ := List.isSuffixOf_iff_suffix.1 e
    exact h ⟨u, hu.symm⟩

/-! ### Numerals -/
theorem dec_digit : ∀ (u : Nat) (x : UInt8), x ∈ decDigits u → 48 ≤ x.toNat ∧ x.toNat ≤ 57 := by
  intro u
  induction u using Nat.strongRecOn with
  | _ u ih =>
    intro x hx
    rw [decDigits] at hx
    by_cases h : u < 10
    · rw [dif_pos h] at hx
      rw [List.mem_singleton.1 hx, u8_nat (by omega)]; omega
    · rw [dif_neg h] at hx
      rcases List.mem_append.1 hx with h1 | h1
      · exact ih (u / 10) (by omega) x h1
      · rw [List.mem_singleton.1 h1, u8_nat (by omega)]; omega
theorem itoa_no (n : Int) (c : UInt8) (hc : c.toNat < 45) : c ∉ itoa n := by
  intro h
  unfold itoa at h
  have h45 : (45 : UInt8).toNat = 45 := rfl
  split at h
  · rcases List.mem_cons.1 h with rfl | h1
    · omega
    · have := dec_digit _ _ h1; omega
  · have := dec_digit _ _ h; omega

/-! ### A line and its instruction -/
def wdN (f : UInt8) (n : Int) : List UInt8 := (if f = 110 then [] else [114]) ++ itoa n
theorem wdS_N (i : Ins) (f : UInt8) : wdS i f = 32 :: wdN f (prt i (kOf f)) := by
  unfold wdS wdN
  split <;> rfl
theorem wdN_no (f : UInt8) (n : Int) (c : UInt8) (hc : c.toNat < 45) : c ∉ wdN f n := by
  intro h
  unfold wdN at h
  rcases List.mem_append.1 h with h1 | h1
  · split at h1
    · simp at h1
    · obtain rfl : c = 114 := by simpa using h1
      exact absurd hc (by decide)
  · exact itoa_no n c hc h1
theorem lwS_ok {f : UInt8} {n : Int} (hf : isL f = true) (h : lowS (kOf f) ≤ n ∧ n ≤ highS (kOf f)) : lwS f (wdN f n) = some n := by
  have hb : -9223372036854775808 ≤ n ∧ n ≤ 9223372036854775807 := by
    have h0 : -2147483648 ≤ lowS (kOf f) := by unfold lowS; split <;> omega
    have h1 : highS (kOf f) ≤ 2147483647 := by unfold highS; split <;> omega
    omega
  unfold lwS wdN
  by_cases h1 : f = 110
  · subst h1
    rw [if_pos rfl, if_pos rfl, List.nil_append]
    unfold numR
    rw [numS_itoa hb.1 hb.2]
    exact if_pos h
  · rw [if_neg h1, if_neg h1]
    simp only [List.cons_append, List.nil_append, if_pos]
    unfold numR
    rw [numS_itoa hb.1 hb.2]
    exact if_pos h
theorem lwS_inv {f : UInt8} {x : List UInt8} {n : Int} (hf : isL f = true) (h : lwS f x = some n) : x = wdN f n ∧ lowS (kOf f) ≤ n ∧ n ≤ highS (kOf f) := by
  have num : ∀ {s : List UInt8} {lo hi : Int}, numR s lo hi = some n → itoa n = s ∧ lo ≤ n ∧ n ≤ hi := by
    intro s lo hi h
    unfold numR at h
    cases e : numS s with
    | none => rw [e] at h; cases h
    | some v =>
      rw [e] at h
      simp only at h
      split at h
      · rename_i h2
        obtain rfl : v = n := by simpa using h
        exact ⟨(numS_some e).2, h2⟩
      · cases h
  unfold lwS at h
  unfold wdN
  by_cases h1 : f = 110
  · rw [if_pos h1] at h ⊢
    obtain ⟨e, h2⟩ := num h
    refine ⟨by rw [e]; rfl, ?_⟩
    rw [h1]
    exact h2
  · rw [if_neg h1] at h ⊢
    cases x with
    | nil => cases h
    | cons c r =>
      simp only at h
      split at h
      · rename_i hc
        obtain ⟨e, h2⟩ := num h
        exact ⟨by rw [e, hc]; rfl, h2⟩
      · cases h
theorem forms : ∀ k : Fin 23, opF k.val = [] ∨ opF k.val = [110] ∨ opF k.val = [97] ∨ opF k.val = [97, 110] ∨ opF k.val = [97, 98] ∨ opF k.val = [97, 98, 99] ∨ opF k.val = [97, 98, 110] := by decide +kernel
theorem fnd_name : ∀ k : Fin 23, fndS (opN k.val) 23 0 = some k.val := by decide +kernel
theorem name_no : ∀ k : Fin 23, (32 : UInt8) ∉ opN k.val ∧ (10 : UInt8) ∉ opN k.val := by decide +kernel
theorem fnd_inv {w0 : List UInt8} : ∀ (n k m : Nat), fndS w0 n k = some m → opN m = w0 ∧ k ≤ m ∧ m < k + n
  | 0, k, m, h => by cases h
  | n + 1, k, m, h => by
    unfold fndS at h
    split at h
    · rename_i h1
      obtain rfl : k = m := by simpa using h
      exact ⟨h1, Nat.le_refl _, by omega⟩
    · obtain ⟨a, b, c⟩ := fnd_inv n (k + 1) m h
      exact ⟨a, by omega, by omega⟩
/-- What a form asks of its instruction. -/
def okF (F : List UInt8) (i : Ins) : Prop := (if (97 : UInt8) ∈ F then 0 ≤ i.a ∧ i.a ≤ 15 else i.a = 0) ∧ (if (98 : UInt8) ∈ F then 0 ≤ i.b ∧ i.b ≤ 15 else i.b = 0) ∧ (if (99 : UInt8) ∈ F then 0 ≤ i.c ∧ i.c ≤ 15 else i.c = 0) ∧ (if (110 : UInt8) ∈ F then -2147483648 ≤ i.n ∧ i.n ≤ 2147483647 else i.n = 0)
theorem hasL_mem (s : ByteArray) (c : UInt8) : hasL s (c.toNat : Int) = decide (c ∈ s.data.toList) := by
  unfold hasL
  have e : ((c.toNat : Int)).toNat.toUInt8 = c := by simp
  rw [e]
  by_cases h : c ∈ s.data.toList
  · obtain ⟨j, hj⟩ := List.mem_iff_getElem?.1 h
    rw [decide_eq_true h, decide_eq_true (idx_hit hj)]
  · rw [decide_eq_false h, idx_miss (fun j _ e => h (List.mem_of_getElem? e))]
    decide
theorem may_iff {i : Ins} {k : Nat} (hk : k < 23) (ho : i.op = k) : mayS i = true ↔ okF (opF k) i := by
  have hO : opOk i.op = true := by unfold opOk; simp; omega
  have h (j : Nat) (c : UInt8) (hj : ltr j = (c.toNat : Int)) : okL i j = true ↔ (if c ∈ opF k then lowS j ≤ prt i j ∧ prt i j ≤ highS j else prt i j = 0) := by
    unfold okL
    rw [hj, hasL_mem, ho]
    unfold opF
    by_cases hm : c ∈ (formS k).data.toList
    · rw [if_pos (decide_eq_true hm), if_pos hm]; simp
    · rw [if_neg (by simp [hm]), if_neg hm]; simp
  unfold mayS
  rw [hO]
  simp only [Bool.true_and, Bool.and_eq_true, h 0 97 rfl, h 1 98 rfl, h 2 99 rfl, h 3 110 rfl]
  unfold okF
  simp only [prt, lowS, highS, List.getD_cons_zero, List.getD_cons_succ]
  constructor
  · rintro ⟨⟨⟨h0, h1⟩, h2⟩, h3⟩
    exact ⟨h0, h1, h2, h3⟩
  · rintro ⟨h0, h1, h2, h3⟩
    exact ⟨⟨⟨h0, h1⟩, h2⟩, h3⟩
theorem lineS_op {i : Ins} {k : Nat} (ho : i.op = k) : lineS i = opN k ++ ((opF k).map fun f => wdN f (prt i (kOf f))).flatMap (fun w => 32 :: w) := by
  unfold lineS opN opF
  rw [ho, List.flatMap_map]
  have e : wdS i = fun f => 32 :: wdN f (prt i (kOf f)) := funext fun f => wdS_N i f
  rw [e]
theorem cut_line {i : Ins} {k : Nat} (hk : k < 23) (ho : i.op = k) : cutS 32 (lineS i) = opN k :: (opF k).map fun f => wdN f (prt i (kOf f)) := by
  rw [lineS_op ho]
  refine cutS_words 32 _ _ (name_no ⟨k, hk⟩).1 ?_
  intro w hw
  obtain ⟨f, _, rfl⟩ := List.mem_map.1 hw
  exact wdN_no _ _ _ (by decide)
theorem line_no {i : Ins} (h : mayS i = true) : (10 : UInt8) ∉ lineS i := by
  obtain ⟨⟨o1, o2⟩, _⟩ := may_rng h
  obtain ⟨k, ho⟩ : ∃ k : Nat, i.op = k := ⟨i.op.toNat, by omega⟩
  rw [lineS_op ho]
  intro hm
  rcases List.mem_append.1 hm with h1 | h1
  · exact (name_no ⟨k, by omega⟩).2 h1
  · obtain ⟨w, hw, h2⟩ := List.mem_flatMap.1 h1
    obtain ⟨f, _, rfl⟩ := List.mem_map.1 hw
    rcases List.mem_cons.1 h2 with e | e
    · exact absurd e (by decide)
    · exact wdN_no _ _ _ (by decide) e
/-- What is printed is read. -/
theorem type_line {i : Ins} (h : mayS i = true) : typeS (lineS i) = some i := by
  obtain ⟨⟨o1, o2⟩, _⟩ := may_rng h
  obtain ⟨k, ho⟩ : ∃ k : Nat, i.op = k := ⟨i.op.toNat, by omega⟩
  have hk : k < 23 := by omega
  have h2 := (may_iff hk ho).1 h
  unfold typeS
  rw [cut_line hk ho]
  simp only [List.headD_cons, fnd_name ⟨k, hk⟩, List.length_cons, List.length_map, List.tail_cons, if_pos]
  obtain ⟨op, a, b, c, n⟩ := i
  simp only at ho
  subst ho
  have ga : ∀ (x : Int), 0 ≤ x ∧ x ≤ 15 → lwS 97 (wdN 97 x) = some x := fun x h => lwS_ok rfl h
  have gb : ∀ (x : Int), 0 ≤ x ∧ x ≤ 15 → lwS 98 (wdN 98 x) = some x := fun x h => lwS_ok rfl h
  have gc : ∀ (x : Int), 0 ≤ x ∧ x ≤ 15 → lwS 99 (wdN 99 x) = some x := fun x h => lwS_ok rfl h
  have gn : ∀ (x : Int), -2147483648 ≤ x ∧ x ≤ 2147483647 → lwS 110 (wdN 110 x) = some x := fun x h => lwS_ok rfl h
  have ka : kOf 97 = 0 := rfl
  have kb : kOf 98 = 1 := rfl
  have kc : kOf 99 = 2 := rfl
  have kn : kOf 110 = 3 := rfl
  unfold okF at h2
  have hF := forms ⟨k, hk⟩
  simp only at hF
  generalize opF k = F at h2 hF ⊢
  rcases hF with rfl | rfl | rfl | rfl | rfl | rfl | rfl
  all_goals
    simp at h2
    obtain ⟨h3, h4, h5, h6⟩ := h2
    try subst h3
    try subst h4
    try subst h5
    try subst h6
    simp only [List.map_cons, List.map_nil, ka, kb, kc, kn, prt, List.getD_cons_zero, List.getD_cons_succ, goS]
    repeat (first | rw [ga _ (by assumption)] | rw [gb _ (by assumption)] | rw [gc _ (by assumption)] | rw [gn _ (by assumption)] | simp only [goS, setI, if_pos, if_neg])
    try rfl
/-- What is read is printed, and may be. -/
theorem type_inv {p : List UInt8} {i : Ins} (h : typeS p = some i) : lineS i = p ∧ mayS i = true := by
  unfold typeS at h
  have hj := joinS_cut 32 p
  cases hc : cutS 32 p with
  | nil => exact absurd hc (cutS_ne _ _)
  | cons w0 ws =>
  rw [hc] at h hj
  simp only [List.headD_cons, List.length_cons, List.tail_cons] at h
  cases hf : fndS w0 23 0 with
  | none => rw [hf] at h; cases h
  | some k =>
  rw [hf] at h
  obtain ⟨hn, _, hk⟩ := fnd_inv 23 0 k hf
  simp only at h
  split at h
  case isFalse => cases h
  rename_i hl
  have hk23 : k < 23 := by omega
  unfold joinS at hj
  have hF := forms ⟨k, hk23⟩
  simp only at hF
  have step : ∀ (f : UInt8) (fs : List UInt8) (x : List UInt8) (r : List (List UInt8)) (acc j : Ins), isL f = true → goS (f :: fs) (x :: r) acc = some j → ∃ n, x = wdN f n ∧ (lowS (kOf f) ≤ n ∧ n ≤ highS (kOf f)) ∧ goS fs r (setI acc f n) = some j := by
    intro f fs x r acc j hf h
    unfold goS at h
    cases e : lwS f x with
    | none => rw [e] at h; cases h
    | some n =>
      rw [e] at h
      obtain ⟨h1, h2⟩ := lwS_inv hf e
      exact ⟨n, h1, h2, h⟩
  have fin : ∀ (F : List UInt8), opF k = F → i.op = k → okF F i → ws = F.map (fun f => wdN f (prt i (kOf f))) → lineS i = p ∧ mayS i = true := by
    intro F hF ho hok hw
    refine ⟨?_, (may_iff hk23 ho).2 (hF ▸ hok)⟩
    rw [lineS_op ho, hF, ← hw, ← hj, hn]
  have nilW : ws.length = (opF k).length := by omega
  rcases hF with e | e | e | e | e | e | e
  all_goals
    rw [e] at h nilW
    refine fin _ e ?_ ?_ ?_
  all_goals
    first
      | (match ws, nilW with
         | [], _ =>
           simp only [goS, Option.some.injEq] at h
           subst h
           first | rfl | (simp [okF])
         done)
      | (match ws, nilW with
         | [x], _ =>
           obtain ⟨n, rfl, ⟨r1, r2⟩, h⟩ := step _ _ _ _ _ _ rfl h
           simp only [goS, Option.some.injEq] at h
           subst h
           first | rfl | (simp [okF, setI]; exact ⟨r1, r2⟩)
         done)
      | (match ws, nilW with
         | [x, y], _ =>
           obtain ⟨n, rfl, ⟨r1, r2⟩, h⟩ := step _ _ _ _ _ _ rfl h
           obtain ⟨m, rfl, ⟨r3, r4⟩, h⟩ := step _ _ _ _ _ _ rfl h
           simp only [goS, Option.some.injEq] at h
           subst h
           first | rfl | (simp [okF, setI]; exact ⟨⟨r1, r2⟩, ⟨r3, r4⟩⟩)
         done)
      | (match ws, nilW with
         | [x, y, z], _ =>
           obtain ⟨n, rfl, ⟨r1, r2⟩, h⟩ := step _ _ _ _ _ _ rfl h
           obtain ⟨m, rfl, ⟨r3, r4⟩, h⟩ := step _ _ _ _ _ _ rfl h
           obtain ⟨q, rfl, ⟨r5, r6⟩, h⟩ := step _ _ _ _ _ _ rfl h
           simp only [goS, Option.some.injEq] at h
           subst h
           first | rfl | (simp [okF, setI]; exact ⟨⟨r1, r2⟩, ⟨r3, r4⟩, ⟨r5, r6⟩⟩)
         done)

/-! ### Texts -/
/-- The instructions of lines, if each is one. -/
theorem parS_all : ∀ (ps : List (List UInt8)) (is : List Ins) (k : Nat) (acc : List Ins), ps.map typeS = is.map some → parS ps k acc = (acc ++ is, 0, 0)
  | [], [], k, acc, _ => by simp [parS]
  | [], _ :: _, _, _, h => by simp at h
  | _ :: _, [], _, _, h => by simp at h
  | p :: ps, i :: is, k, acc, h => by
    simp only [List.map_cons, List.cons.injEq] at h
    unfold parS
    rw [h.1]
    simp only
    rw [parS_all ps is (k + 1) (acc ++ [i]) h.2]
    simp
theorem parS_bad : ∀ (ps : List (List UInt8)) (k : Nat) (acc : List Ins) (j : Nat) (p : List UInt8), ps[j]? = some p → typeS p = none → (∀ m, m < j → ∀ q, ps[m]? = some q → (typeS q).isSome = true) → parS ps k acc = ([], k + j + 1, 41)
  | [], k, acc, j, p, h, _, _ => by simp at h
  | q :: ps, k, acc, 0, p, h, hn, _ => by
    obtain rfl : q = p := by simpa using h
    unfold parS
    rw [hn]
    try rfl
  | q :: ps, k, acc, j + 1, p, h, hn, hb => by
    have h0 := hb 0 (by omega) q rfl
    obtain ⟨i, hi⟩ := Option.isSome_iff_exists.1 h0
    unfold parS
    rw [hi]
    simp only
    rw [parS_bad ps (k + 1) (acc ++ [i]) j p (by simpa using h) hn (fun m hm r hr => hb (m + 1) (by omega) r (by simpa using hr))]
    congr 2
    omega
/-- Either every line is an instruction, or there is a first that is none. -/
theorem lines_cases : ∀ (ps : List (List UInt8)), (∃ is : List Ins, ps.map typeS = is.map some) ∨ (∃ (j : Nat) (p : List UInt8), ps[j]? = some p ∧ typeS p = none ∧ ∀ m, m < j → ∀ q, ps[m]? = some q → (typeS q).isSome = true)
  | [] => .inl ⟨[], rfl⟩
  | p :: ps => by
    cases h : typeS p with
    | none => exact .inr ⟨0, p, rfl, h, fun m hm => by omega⟩
    | some i =>
      rcases lines_cases ps with ⟨is, h1⟩ | ⟨j, q, h1, h2, h3⟩
      · exact .inl ⟨i :: is, by simp [h, h1]⟩
      · refine .inr ⟨j + 1, q, by simpa using h1, h2, fun m hm r hr => ?_⟩
        match m, hr with
        | 0, hr =>
          obtain rfl : p = r := by simpa using hr
          rw [h]; rfl
        | m + 1, hr => exact h3 m (by omega) r (by simpa using hr)
theorem parse_ends {ps : List (List UInt8)} (hn : ∀ p ∈ ps, (10 : UInt8) ∉ p) : parseS (endS 10 ps) = parS ps 0 [] := by
  by_cases h : ps = []
  · subst h
    rfl
  · have e := endS_join 10 h
    unfold parseS
    rw [if_neg (by rw [e]; simp), e, trimS_end, cutS_join 10 h hn]
theorem textS_ends (is : List Ins) : textS is = endS 10 (is.map lineS) := by
  unfold textS endS
  rw [List.flatMap_map]
/-- Instructions come back from their text. -/
theorem parse_text {is : List Ins} (h : is.all mayS = true) : parseS (textS is) = (is, 0, 0) := by
  have h1 := List.all_eq_true.1 h
  rw [textS_ends, parse_ends (fun p hp => by
    obtain ⟨i, hi, rfl⟩ := List.mem_map.1 hp
    exact line_no (h1 i hi))]
  rw [parS_all _ is 0 []]
  · simp
  · rw [List.map_map]
    refine List.map_congr_left fun i hi => ?_
    exact type_line (h1 i hi)
/-- What is read of a text: refused at some line; or instructions that may be, whose text it is, but for the last line's end. -/
theorem parse_cases (t : List UInt8) : (∃ n, 1 ≤ n ∧ parseS t = ([], n, 41)) ∨ ∃ is : List Ins, parseS t = (is, 0, 0) ∧ is.all mayS = true ∧ (textS is = t ∨ textS is = t ++ [10]) := by
  by_cases h : t = []
  · subst h
    exact .inr ⟨[], rfl, rfl, .inl rfl⟩
  unfold parseS
  rw [if_neg h]
  rcases lines_cases (cutS 10 (trimS t)) with ⟨is, h1⟩ | ⟨j, p, h1, h2, h3⟩
  · refine .inr ⟨is, by rw [parS_all _ is 0 [] h1]; rfl, ?_, ?_⟩
    · refine List.all_eq_true.2 fun i hi => ?_
      have hm : some i ∈ (cutS 10 (trimS t)).map typeS := by rw [h1]; exact List.mem_map_of_mem hi
      obtain ⟨p, _, hp⟩ := List.mem_map.1 hm
      exact (type_inv hp).2
    · have e1 : is.map lineS = cutS 10 (trimS t) := by
        have : ∀ (ps : List (List UInt8)) (is : List Ins), ps.map typeS = is.map some → is.map lineS = ps := by
          intro ps
          induction ps with
          | nil => intro is h; cases is with
            | nil => rfl
            | cons _ _ => simp at h
          | cons p ps ih => intro is h; cases is with
            | nil => simp at h
            | cons i is =>
              simp only [List.map_cons, List.cons.injEq] at h
              rw [List.map_cons, (type_inv h.1).1, ih is h.2]
        exact this _ _ h1
      have e2 : textS is = trimS t ++ [10] := by
        rw [textS_ends, e1, endS_join 10 (cutS_ne _ _), joinS_cut]
      rw [e2]
      rcases trimS_cases t with e | e
      · exact .inr (by rw [e])
      · exact .inl e.symm
  · exact .inl ⟨j + 1, by omega, by rw [parS_bad _ 0 [] j p h1 h2 h3]; congr 2; omega⟩

/-! ### Bytes -/
def decL (b : List UInt8) : List Ins := (List.range (b.length / 8)).map (insK b)
theorem insRow_dec (b : List UInt8) : insRow b (b.length / 8) = (decL b).flatMap Ins.cells := by
  unfold insRow decL
  rw [List.flatMap_map]
theorem byI_take {b c : List UInt8} {j : Nat} (h : b[j]? = c[j]?) : byI b j = byI c j := by
  unfold byI
  rw [List.getD_eq_getElem?_getD, List.getD_eq_getElem?_getD, h]
theorem byI_drop (b : List UInt8) (k j : Nat) : byI (b.drop k) j = byI b (k + j) := by
  unfold byI
  rw [List.getD_eq_getElem?_getD, List.getD_eq_getElem?_getD, List.getElem?_drop]
theorem insK_drop (b : List UInt8) (k : Nat) : insK (b.drop (8 * k)) 0 = insK b k := by
  unfold insK
  simp only [byI_drop, Nat.mul_zero, Nat.zero_add, Nat.add_zero]
theorem insK_app (x y : List UInt8) (h : 8 ≤ x.length) : insK (x ++ y) 0 = insK x 0 := by
  have e : ∀ j, j < 8 → byI (x ++ y) j = byI x j := fun j hj => byI_take (List.getElem?_append_left (by omega))
  unfold insK
  simp only [Nat.mul_zero, Nat.zero_add]
  rw [e 0 (by omega), e 1 (by omega), e 2 (by omega), e 3 (by omega), e 4 (by omega), e 5 (by omega), e 6 (by omega), e 7 (by omega)]
/-- The bytes of an instruction of eight bytes. -/
theorem encS_insK {x : List UInt8} (h : x.length = 8) : encS (insK x 0) = x := by
  match x, h with
  | [x0, x1, x2, x3, x4, x5, x6, x7], _ =>
  have r (x : UInt8) : encB (x.toNat : Int) = x := by
    have h1 := encB_I (x := (x.toNat : Int)) (by omega) (by have := x.toNat_lt; omega)
    exact UInt8.toNat_inj.1 (by omega)
  have t4 := x4.toNat_lt
  have t5 := x5.toNat_lt
  have t6 := x6.toNat_lt
  have t7 := x7.toNat_lt
  unfold encS insK byI
  simp only [Nat.mul_zero, Nat.zero_add, List.getD_cons_zero, List.getD_cons_succ, r]
  have hU : unN (i32S ((x4.toNat : Int) + 256 * (x5.toNat : Int) + 65536 * (x6.toNat : Int) + 16777216 * (x7.toNat : Int))) = (x4.toNat : Int) + 256 * (x5.toNat : Int) + 65536 * (x6.toNat : Int) + 16777216 * (x7.toNat : Int) := by
    unfold unN i32S
    split <;> split <;> omega
  rw [hU]
  have e4 : ((x4.toNat : Int) + 256 * (x5.toNat : Int) + 65536 * (x6.toNat : Int) + 16777216 * (x7.toNat : Int)) % 256 = x4.toNat := by omega
  have e5 : ((x4.toNat : Int) + 256 * (x5.toNat : Int) + 65536 * (x6.toNat : Int) + 16777216 * (x7.toNat : Int)) / 256 % 256 = x5.toNat := by omega
  have e6 : ((x4.toNat : Int) + 256 * (x5.toNat : Int) + 65536 * (x6.toNat : Int) + 16777216 * (x7.toNat : Int)) / 65536 % 256 = x6.toNat := by omega
  have e7 : ((x4.toNat : Int) + 256 * (x5.toNat : Int) + 65536 * (x6.toNat : Int) + 16777216 * (x7.toNat : Int)) / 16777216 = x7.toNat := by omega
  rw [e4, e5, e6, e7, r, r, r, r]
theorem range_shift {α : Type} (f : Nat → α) : ∀ n, (List.range (n + 1)).map f = f 0 :: (List.range n).map (fun k => f (k + 1)) := fun n => by
  rw [List.range_succ_eq_map, List.map_cons, List.map_map]
  rfl
/-- Bytes that are instructions are their bytes. -/
theorem enc_dec : ∀ (n : Nat) (b : List UInt8), b.length = 8 * n → ((List.range n).map (insK b)).flatMap encS = b
  | 0, b, h => by
    have : b = [] := List.length_eq_zero_iff.1 (by omega)
    subst this
    rfl
  | n + 1, b, h => by
    have ih := enc_dec n (b.drop 8) (by rw [List.length_drop]; omega)
    have e1 : (fun k => insK b (k + 1)) = insK (b.drop 8) := by
      funext k
      have h1 := insK_drop b (k + 1)
      have h2 := insK_drop (b.drop 8) k
      rw [List.drop_drop] at h2
      rw [← h1, ← h2]
      congr 2; omega
    rw [range_shift, List.flatMap_cons, e1, ih]
    have e2 : insK b 0 = insK (b.take 8) 0 := by
      conv => lhs; rw [← List.take_append_drop 8 b]
      exact insK_app _ _ (by rw [List.length_take]; omega)
    rw [e2, encS_insK (by rw [List.length_take]; omega), List.take_append_drop]
theorem enc_decL {b : List UInt8} (h : decOk b) : encodeS (decL b) = some b := by
  unfold encodeS
  rw [if_pos, decL, enc_dec _ _ (by have := h.1; omega)]
  refine List.all_eq_true.2 fun i hi => ?_
  obtain ⟨k, hk, rfl⟩ := List.mem_map.1 hi
  exact h.2 k (by have := List.mem_range.1 hk; omega)
/-- Instructions come back from their bytes. -/
theorem dec_enc : ∀ (is : List Ins), is.all mayS = true → (List.range is.length).map (insK (is.flatMap encS)) = is
  | [], _ => rfl
  | i :: is, h => by
    simp only [List.all_cons, Bool.and_eq_true] at h
    have ih := dec_enc is h.2
    rw [List.length_cons, range_shift, List.flatMap_cons]
    have e1 : (fun k => insK (encS i ++ is.flatMap encS) (k + 1)) = insK (is.flatMap encS) := by
      funext k
      have h1 := insK_drop (encS i ++ is.flatMap encS) (k + 1)
      have h2 := insK_drop (is.flatMap encS) k
      rw [← h1, ← h2, show 8 * (k + 1) = (encS i).length + 8 * k by rw [encS_len]; omega, ← List.drop_drop, List.drop_left]
    rw [e1, ih, insK_app _ _ (by rw [encS_len]; omega), insK_enc h.1]
theorem decL_enc {is : List Ins} (h : is.all mayS = true) : decL (is.flatMap encS) = is ∧ decOk (is.flatMap encS) := by
  have e := dec_enc is h
  have hl : (is.flatMap encS).length / 8 = is.length := by rw [encs_len]; omega
  have hd : decL (is.flatMap encS) = is := by unfold decL; rw [hl]; exact e
  refine ⟨hd, by rw [encs_len]; omega, fun k hk => ?_⟩
  have hk2 : k < is.length := by rw [encs_len] at hk; omega
  have : insK (is.flatMap encS) k ∈ is := by
    rw [← e]
    have : insK (is.flatMap encS) k ∈ (List.range is.length).map (insK (is.flatMap encS)) := List.mem_map_of_mem (List.mem_range.2 hk2)
    rw [e] at this ⊢
    exact this
  exact List.all_eq_true.1 h _ this
end Go.Proofs.YtmbacegbcccdjaaDoor
