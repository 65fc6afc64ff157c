/-
  Layer 5: slices.Insert at regions.
  Conditions: none. (My own text.)
-/
import Derived.Test.YtpononkgeeahdaaSpi
import Derived.Shelf.Spec.SlicesInsertGrow
import Derived.Deep.RegionLaw
namespace Go.Proofs.Ytpononkgeeahdaa
open Go.RowKit Spm
set_option linter.unusedVariables false
set_option linter.unusedSimpArgs false
open Go.Lib Go.Proofs

theorem run_copy_rowN (P : Program) (w : World) (dT sT ty elem : TypeId) (s g o dLen dCap : Nat) (a : Addr) (sLen sCap : Nat) (cur : Array Value) (t : TypeId) (cs : List Value)
    (hu : P.underlying dT = some (.slice elem)) (hs : (P.info? elem).map (·.size) = some s)
    (hg : w.heap[g]? = some (.cells cur t (0, 0))) (hn : cs.length = Nat.min sLen dLen * s)
    (hsrc : ∀ j v, cs[j]? = some v → w.cell? (a.add j) = some v) (hfit : o + cs.length ≤ cur.size) (h1 : ∀ v ∈ cs, v.oneCell' = true) :
    (Builtin.copy_ #[dT, sT] ty #[.slice (some ⟨g, o, none⟩) dLen dCap, .slice (some a) sLen sCap]).run P w =
      .ok (goInt (Nat.min sLen dLen)) (w.setRow g (cur.toList.take o ++ cs ++ cur.toList.drop (o + cs.length)).toArray) := by
  have hl := run_loadCells_list (P := P) w a cs hsrc
  have hst := run_storeCells_at P g o t cs 0 cur w hg (by simpa using hfit) h1
  cases hq : P.info? elem with
  | none => simp [hq] at hs
  | some i =>
    have hi : i.size = s := by simpa [hq] using hs
    simp [Builtin.copy_, run_underlying hu, Builtin.lenOf, Builtin.firstCells, sizeOf, typeInfo, hq, hi, ← hn, hl, hst]

/-- Cells put in. -/
def putIn (xs news : List Value) (k : Nat) : List Value := xs.take k ++ news ++ xs.drop k

theorem region_size : (Try.prog.info? 67).map (·.size) = some 4 := by kernel_rfl

theorem shift_list {C xs news : List Value} {i n : Nat} (hi : i < n) (hx : C.take (n * 4) = xs) (hl : xs.length = n * 4) (hc : (n + 1) * 4 ≤ C.length) (hn : news.length = 4) :
    let C1 := C.take ((i + 1) * 4) ++ xs.drop (i * 4) ++ C.drop ((i + 1) * 4 + (xs.drop (i * 4)).length)
    C1.length = C.length ∧ (C1.take (i * 4) ++ news ++ C1.drop (i * 4 + news.length)).length = C.length ∧ (C1.take (i * 4) ++ news ++ C1.drop (i * 4 + news.length)).take ((n + 1) * 4) = putIn xs news (i * 4) := by
  intro C1
  have e1 : C1.length = C.length := by simp only [C1, List.length_append, List.length_take, List.length_drop, hl]; omega
  have e2 : C1.take (i * 4) = xs.take (i * 4) := by
    simp only [C1]
    rw [List.append_assoc, List.take_append_of_le_length (by simp; omega), List.take_take, Nat.min_eq_left (by omega), ← hx, List.take_take, Nat.min_eq_left (by omega)]
  have e3 : C1.drop (i * 4 + news.length) = xs.drop (i * 4) ++ C.drop ((i + 1) * 4 + (xs.drop (i * 4)).length) := by
    have hlen : (C.take ((i + 1) * 4)).length = i * 4 + news.length := by simp; omega
    simp only [C1]
    rw [List.append_assoc, ← hlen, List.drop_left]
  refine ⟨e1, ?_, ?_⟩
  · simp only [List.length_append, List.length_take, List.length_drop, e1]; omega
  · rw [e2, e3, ← List.append_assoc]
    unfold putIn
    have hlen : (xs.take (i * 4) ++ news ++ xs.drop (i * 4)).length = (n + 1) * 4 := by simp only [List.length_append, List.length_take, List.length_drop, hl, hn]; omega
    rw [← hlen, List.take_left]

set_option maxHeartbeats 2000000 in
set_option maxRecDepth 100000 in
theorem insert_shift (g n c i vb vc : Nat) (C : Array Value) (xs news : List Value) (w : World) (hi : i < n) (hroom : n + 1 ≤ c) (hc63 : c ≤ 9223372036854775807) (hvb : vb ≠ g)
    (hg : w.heap[g]? = some (.cells C 67 (0, 0))) (hC : C.size = c * 4) (hxs : C.toList.take (n * 4) = xs) (hvg : w.heap[vb]? = some (.cells news.toArray 67 (0, 0))) (hnl : news.length = 4)
    (h1c : ∀ u ∈ xs, u.oneCell' = true) (h1v : ∀ u ∈ news, u.oneCell' = true) :
    Calls Try.prog 25 #[.slice (some ⟨g, 0, none⟩) n c, .int .i64 i, .slice (some ⟨vb, 0, none⟩) 1 vc] w fun e w' =>
      e = .returned (.slice (some ⟨g, 0, none⟩) (n + 1) c) ∧ ∃ C', C'.size = c * 4 ∧ C'.toList.take ((n + 1) * 4) = putIn xs news (i * 4) ∧ w' = (w.drew).setRow g C' := by
  have hz2 : ¬ ((i : Int) = (n : Int)) := by omega
  have hov : ∀ lb cb, (callFunc 37 #[.slice (some ⟨vb, 0, none⟩) 1 vc, .slice (some ⟨g, (i + 1) * 4, none⟩) lb cb]).run Try.prog w = .ok (.value (.bool false)) w := fun lb cb => by
    rw [run_callFunc_extern Try.func37 (by kernel_rfl) (by kernel_rfl) (by kernel_rfl) (e := Extern.SlicesOverlaps.overlaps #[59, 59] #[4]) (by kernel_rfl),
      Lib.run_overlaps_apart w 59 4 67 Try.underlying59 4 (fun w => by kernel_rfl) ⟨vb, 0, none⟩ ⟨g, (i + 1) * 4, none⟩ 1 vc lb cb hvb 67 67 4 (c * 4) (by simp [World.shape?, hvg, hnl]) (by simp [World.shape?, hg, hC]) (by omega) (frozen_of_row w vb 0 _ _ hvg) (frozen_of_row w vb 4 _ _ hvg)]
    rfl
  have hxl : xs.length = n * 4 := by rw [← hxs, List.length_take, Array.length_toList]; omega
  have hCl : C.toList.length = c * 4 := by simpa using hC
  obtain ⟨s1, s2, s3⟩ := shift_list (C := C.toList) (news := news) hi hxs hxl (by omega) hnl
  obtain ⟨C1, hC1⟩ : ∃ C1, C.toList.take ((i + 1) * 4) ++ xs.drop (i * 4) ++ C.toList.drop ((i + 1) * 4 + (xs.drop (i * 4)).length) = C1 := ⟨_, rfl⟩
  simp only [hC1] at s1 s2 s3
  have hdl : (xs.drop (i * 4)).length = (n - i) * 4 := by rw [List.length_drop, hxl]; omega
  have hcell : ∀ j u, (xs.drop (i * 4))[j]? = some u → w.cell? ⟨g, i * 4 + j, none⟩ = some u := fun j u hj => by
    rw [cell_of_row w g _ _ _ _ hg]
    rw [List.getElem?_drop, ← hxs, List.getElem?_take] at hj
    split at hj
    · simpa using hj
    · cases hj
  have hcp1 : ∀ ty dc sc, (Builtin.copy_ #[59, 59] ty #[.slice (some ⟨g, (i + 1) * 4, none⟩) (n - i) dc, .slice (some ⟨g, i * 4, none⟩) (n + 1 - i) sc]).run Try.prog w.drew =   .ok (goInt ((n - i : Nat) : Int)) (w.drew.setRow g C1.toArray) := fun ty dc sc => by
    have hm : Nat.min (n + 1 - i) (n - i) = n - i := Nat.min_eq_right (by omega)
    have h := run_copy_rowN Try.prog w.drew 59 59 ty 67 4 g ((i + 1) * 4) (n - i) dc ⟨g, i * 4, none⟩ (n + 1 - i) sc C 67 (xs.drop (i * 4)) Try.underlying59 region_size hg (by rw [hm, hdl]) (fun j u hj => by rw [Addr.add_lit]; exact hcell j u hj) (by rw [hdl]; omega) (fun u hu => h1c u (List.mem_of_mem_drop hu))
    rw [hC1, hm] at h
    exact h
  have hcp2 : ∀ (W : World), W.heap = (w.drew.setRow g C1.toArray).heap → ∀ ty dc, (Builtin.copy_ #[59, 59] ty #[.slice (some ⟨g, i * 4, none⟩) (n + 1 - i) dc, .slice (some ⟨vb, 0, none⟩) 1 vc]).run Try.prog W = .ok (goInt 1) (W.setRow g (C1.take (i * 4) ++ news ++ C1.drop (i * 4 + news.length)).toArray) := fun W hW ty dc => by
    have hm : Nat.min 1 (n + 1 - i) = 1 := Nat.min_eq_left (by omega)
    have hg1 : W.heap[g]? = some (.cells C1.toArray 67 (0, 0)) := by rw [hW]; exact setRow_heap w.drew g C _ _ _ hg
    have hv1 : W.heap[vb]? = some (.cells news.toArray 67 (0, 0)) := by rw [hW, setRow_other _ _ _ _ hvb]; exact hvg
    have h := run_copy_rowN Try.prog W 59 59 ty 67 4 g (i * 4) (n + 1 - i) dc ⟨vb, 0, none⟩ 1 vc C1.toArray 67 news Try.underlying59 region_size hg1 (by rw [hm, hnl]) (fun j u hj => by rw [Addr.add_lit, cell_of_row W vb _ _ _ _ hv1, Nat.zero_add]; simpa using hj) (by simp; omega) h1v
    rw [hm] at h
    exact h
  have hw1 : IntKind.i64.wrap ((i : Int) + 1) = (i : Int) + 1 := by rw [IntKind.wrap_i64]; omega
  have hb1 : (0 : Int) ≤ (i : Int) + 1 := by omega
  have htn : ((i : Int) + 1).toNat = i + 1 := by omega
  have hb2 : ¬ (c = i + 1) := by omega
  have hb4 : ¬ (c = i) := by omega
  have hii : n + 1 - (i + 1) = n - i := by omega
  have hin : i ≤ n := by omega
  have hb5 : (i : Int) ≤ (n : Int) + 1 := by omega
  have HFIN : Hid (∃ C' : Array Value, C'.size = c * 4 ∧ C'.toList.take ((n + 1) * 4) = putIn xs news (i * 4) ∧ (w.drew.setRow g C1.toArray).setRow g (C1.take (i * 4) ++ news ++ C1.drop (i * 4 + news.length)).toArray = w.drew.setRow g C') := Lib.hid ⟨_, by simpa [hCl] using s2, by simpa using s3, setRow_setRow _ _ _ _⟩
  clear s1 s2 s3 hC1 hdl hcell hxl hCl hxs hC hvg hg hnl
  go_enter Try.func25, Try.ntmps25
  go_wp2
  go_region_law (refine step_copy_runI rfl _ _ 59 59 rfl _ _ (by simp [Act.eval, Act.put]) (by simp [Act.eval, Act.put]) (hcp1 _ _ _) ?_)
  have hcp3 := hcp2 _ rfl
  clear hcp1 hcp2 hov
  go_wp2
  go_ret
  have hf := HFIN.out
  rw [List.append_assoc] at hf
  exact ⟨rfl, hf⟩

/-- An append: as the guide's law says, and where the row then lies. -/
theorem append_own2 (P : Program) (w : World) (t ty e : TypeId) (i : TypeInfo) (z : Value) (size bytes : Nat) (ht : P.underlying t = some (.slice e)) (hi : P.info? e = some i) (hz : i.zero = some z)
    (hsize : i.size = size) (hby : i.bytes = bytes) (hzs : z.cells.size = size) (hsz : 0 < size)
    (v : Value) (n : Nat) (xs : List Value) (hown : w.ownsRow 0 e size v n xs)
    (a : Addr) (m c : Nat) (news : List Value) (hm0 : 0 < m) (hl : news.length = m * size) (hnews : ∀ j u, news[j]? = some u → w.cell? (a.add j) = some u) (h1 : ∀ u ∈ news, u.oneCell' = true)
    (h63 : n + m ≤ maxLen) (hbytes : (n + m) * bytes ≤ 140737488355328) :
    ∃ v' w', (Builtin.append_ #[t, t] ty #[v, .slice (some a) m c]).run P w = .ok v' w' ∧ w'.ownsRow 0 e size v' (n + m) (xs ++ news) ∧ w.grownBy w' v.ownBlock ∧ ((∃ g, v.ownBlock = some g ∧ v'.ownBlock = some g) ∨ v'.ownBlock = some w.heap.size) := by
  obtain ⟨v', w', hr, h2, h3, _⟩ := run_append_own (P := P) w 0 t ty e i z size bytes ht hi hz hsize hby hzs hsz v n xs hown a m c news hl hnews h1 h63 hbytes (Nat.zero_le _)
  refine ⟨v', w', hr, h2, h3, ?_⟩
  have hsmall : n + m ≤ 9223372036854775807 := by simp only [maxLen] at h63; omega
  subst hsize
  subst hby
  rcases hown.2 with ⟨rfl, rfl⟩ | ⟨g, cap, cur, rfl, hbg, hg, hnc, hcm, hcs, htake⟩
  · have hr2 := run_append_nil (P := P) w t ty e i z ht hi hz a m c news hl hnews hm0 (by omega) (by have hb := hbytes; simp only [Nat.zero_add] at hb; omega)
    rw [hr2] at hr
    injection hr with e1 e2
    subst e1
    exact .inr rfl
  · by_cases hroom : n + m ≤ cap
    · have hfit : n * i.size + news.length ≤ cur.size := by rw [hl, hcs, ← Nat.add_mul]; exact Nat.mul_le_mul_right _ hroom
      have hr2 := run_append_room (P := P) w t ty e i ht hi g n cap cur hg a m c news hl hnews h1 hroom hfit
      rw [hr2] at hr
      injection hr with e1 e2
      subst e1
      exact .inl ⟨g, rfl, rfl⟩
    · have holds : ∀ j u, xs[j]? = some u → w.cell? ((⟨g, 0, none⟩ : Addr).add j) = some u := hown.cells (g := g) rfl
      have hr2 := run_append_grow (P := P) w t ty e i z ht hi hz ⟨g, 0, none⟩ n cap xs hown.1 holds a m c news hl hnews (by omega) (by omega) (growslice_fits (by omega) hbytes)
      rw [hr2] at hr
      injection hr with e1 e2
      subst e1
      exact .inr rfl

/-- What an insertion leaves. -/
structure Inserted (w : World) (v : Value) (n : Nat) (ys : List Value) (e : Ending) (w' : World) : Prop where
  ex : ∃ v', e = .returned v' ∧ w'.ownsRow 0 67 4 v' n ys ∧ ((∃ g, v.ownBlock = some g ∧ v'.ownBlock = some g) ∨ ∃ g, v'.ownBlock = some g ∧ w.heap.size ≤ g)
  keeps : Keeps (fun k => v.ownBlock = some k) w w'

theorem Keeps.of_grown {w w' : World} {row : Option Nat} (h : w.grownBy w' row) : Keeps (fun k => row = some k) w w' := ⟨h.os, h.tape, h.output, h.size, fun k hk hn => h.block k hk (fun e => hn e.symm)⟩

theorem Inserted.shift {w : World} {g n c i : Nat} {C C' : Array Value} {xs news : List Value} (hi : i ≤ n) (hroom : n + 1 ≤ c) (hc63 : c ≤ maxLen) (hg : w.heap[g]? = some (.cells C 67 (0, 0))) (hxl : xs.length = n * 4) (hnl : news.length = 4)
    (h1 : C'.size = c * 4) (h2 : C'.toList.take ((n + 1) * 4) = putIn xs news (i * 4)) :
    Inserted w (.slice (some ⟨g, 0, none⟩) n c) (n + 1) (putIn xs news (i * 4)) (.returned (.slice (some ⟨g, 0, none⟩) (n + 1) c)) ((w.drew).setRow g C') where
  ex := ⟨_, rfl, ⟨by unfold putIn; simp [hxl, hnl]; omega, .inr ⟨g, c, C', rfl, Nat.zero_le _, setRow_heap w.drew g C _ _ _ hg, hroom, hc63, h1, h2⟩⟩, .inl ⟨g, rfl, rfl⟩⟩
  keeps := ((Keeps.refl _ w).drew).trans' (keeps_setRow _ w.drew g _ (by rfl))

set_option maxHeartbeats 2000000 in
set_option maxRecDepth 100000 in
theorem insert_end (v : Value) (n vb vc : Nat) (xs news : List Value) (w : World) (hown : w.ownsRow 0 67 4 v n xs) (hn : n ≤ 67108864) (hvg : w.heap[vb]? = some (.cells news.toArray 67 (0, 0))) (hnl : news.length = 4) (h1v : ∀ u ∈ news, u.oneCell' = true) :
    Calls Try.prog 25 #[v, .int .i64 n, .slice (some ⟨vb, 0, none⟩) 1 vc] w (Inserted w v (n + 1) (putIn xs news (n * 4))) := by
  obtain ⟨i0, hi, hz0, hz1, hz2⟩ := info_parts cloneR_info
  have hput : putIn xs news (n * 4) = xs ++ news := by
    unfold putIn
    have := hown.1
    rw [List.take_of_length_le (by omega), List.drop_of_length_le (by omega), List.append_nil]
  obtain ⟨v', w', hr, h2, h3, h4⟩ := append_own2 Try.prog w 59 59 67 i0 _ 4 48 Try.underlying59 hi hz0 hz1 hz2 rfl (by decide) v n xs hown ⟨vb, 0, none⟩ 1 vc news (by decide) (by omega) (fun j u hj => by rw [Addr.add_lit, cell_of_row w vb _ _ _ _ hvg, Nat.zero_add]; simpa using hj) h1v (by unfold maxLen; omega) (by omega)
  have HR : Hid (∀ ty, (Builtin.append_ #[59, 59] ty #[v, .slice (some ⟨vb, 0, none⟩) 1 vc]).run Try.prog w = .ok v' w') := Lib.hid (fun ty => by
    obtain ⟨v2, w2, hr2, _⟩ := append_own2 Try.prog w 59 ty 67 i0 _ 4 48 Try.underlying59 hi hz0 hz1 hz2 rfl (by decide) v n xs hown ⟨vb, 0, none⟩ 1 vc news (by decide) (by omega) (fun j u hj => by rw [Addr.add_lit, cell_of_row w vb _ _ _ _ hvg, Nat.zero_add]; simpa using hj) h1v (by unfold maxLen; omega) (by omega)
    have e : ∀ a b, (Builtin.append_ #[59, 59] a #[v, .slice (some ⟨vb, 0, none⟩) 1 vc]) = (Builtin.append_ #[59, 59] b #[v, .slice (some ⟨vb, 0, none⟩) 1 vc]) := fun a b => rfl
    rw [e ty 59]
    exact hr)
  rw [hput]
  have HF : Hid (Inserted w v (n + 1) (xs ++ news) (.returned v') w') := Lib.hid ⟨⟨v', rfl, h2, by rcases h4 with h4 | h4; exact .inl h4; exact .inr ⟨_, h4, Nat.le_refl _⟩⟩, Keeps.of_grown h3⟩
  rcases hown.2 with ⟨rfl, rfl⟩ | ⟨g, cap, cur, rfl, _, _, hnc, hcm, _⟩
  · clear hown hr h2 h3 h4 hvg hput hi hz0 hz1 hz2
    go_enter Try.func25, Try.ntmps25
    go_wp2_with (at_builtin; refine Lib.wpList_append_run _ rfl _ _ _ _ rfl _ _ rfl rfl _ _ (HR.out _) ?_)
    go_ret
    exact HF.out
  · unfold maxLen at hcm
    clear hown hr h2 h3 h4 hvg hput hi hz0 hz1 hz2
    by_cases hcn : cap = n
    · subst hcn
      go_enter Try.func25, Try.ntmps25
      go_wp2_with (at_builtin; refine Lib.wpList_append_run _ rfl _ _ _ _ rfl _ _ rfl rfl _ _ (HR.out _) ?_)
      go_ret
      exact HF.out
    · go_enter Try.func25, Try.ntmps25
      go_wp2_with (at_builtin; refine Lib.wpList_append_run _ rfl _ _ _ _ rfl _ _ rfl rfl _ _ (HR.out _) ?_)
      go_ret
      exact HF.out

theorem grow_list {X xs news : List Value} {i n : Nat} (hi : i < n) (hl : xs.length = n * 4) (hX : (n + 1) * 4 ≤ X.length) (hx : X.take (i * 4) = xs.take (i * 4)) (hn : news.length = 4) :
    let X1 := X.take (i * 4) ++ news ++ X.drop (i * 4 + news.length)
    X1.length = X.length ∧ (X1.take ((i + 1) * 4) ++ xs.drop (i * 4) ++ X1.drop ((i + 1) * 4 + (xs.drop (i * 4)).length)).length = X.length ∧ (X1.take ((i + 1) * 4) ++ xs.drop (i * 4) ++ X1.drop ((i + 1) * 4 + (xs.drop (i * 4)).length)).take ((n + 1) * 4) = putIn xs news (i * 4) := by
  intro X1
  have e1 : X1.length = X.length := by simp only [X1, List.length_append, List.length_take, List.length_drop]; omega
  have e2 : X1.take ((i + 1) * 4) = xs.take (i * 4) ++ news := by
    have hlen : (X.take (i * 4) ++ news).length = (i + 1) * 4 := by simp only [List.length_append, List.length_take]; omega
    simp only [X1]
    rw [← hlen, List.take_left, hx]
  refine ⟨e1, ?_, ?_⟩
  · simp only [List.length_append, List.length_take, List.length_drop, e1, hl]; omega
  · rw [e2]
    unfold putIn
    have hlen : (xs.take (i * 4) ++ news ++ xs.drop (i * 4)).length = (n + 1) * 4 := by simp only [List.length_append, List.length_take, List.length_drop, hl, hn]; omega
    rw [← hlen, List.take_left]

set_option maxHeartbeats 2000000 in
set_option maxRecDepth 100000 in
theorem insert_grow (g n c i vb vc : Nat) (C : Array Value) (xs news : List Value) (w : World) (hi : i < n) (hn : n ≤ 67108864) (hnc : n ≤ c) (hroom : c < n + 1) (hvb : vb < w.heap.size)
    (hg : w.heap[g]? = some (.cells C 67 (0, 0))) (hC : C.size = c * 4) (hxs : C.toList.take (n * 4) = xs) (hvg : w.heap[vb]? = some (.cells news.toArray 67 (0, 0))) (hnl : news.length = 4)
    (h1c : ∀ u ∈ xs, u.oneCell' = true) (h1v : ∀ u ∈ news, u.oneCell' = true) :
    Calls Try.prog 25 #[.slice (some ⟨g, 0, none⟩) n c, .int .i64 i, .slice (some ⟨vb, 0, none⟩) 1 vc] w (Inserted w (.slice (some ⟨g, 0, none⟩) n c) (n + 1) (putIn xs news (i * 4))) := by
  obtain ⟨i0, hi0, hz0, hz1, hz2⟩ := info_parts cloneR_info
  have hne : ¬ ((i : Int) = (n : Int)) := by omega
  have hgl : g < w.heap.size := (Array.getElem?_eq_some_iff.1 hg).1
  have hxl : xs.length = n * 4 := by rw [← hxs, List.length_take, Array.length_toList]; omega
  have hcx : ∀ j u, xs[j]? = some u → w.cell? ⟨g, j, none⟩ = some u := fun j u hj => by
    rw [cell_of_row w g _ _ _ _ hg]
    rw [← hxs, List.getElem?_take] at hj
    split at hj
    · simpa using hj
    · cases hj
  have hold : (Builtin.firstCells i0.size i (.slice (some ⟨g, 0, none⟩) i c)).run Try.prog w.drew = .ok (xs.take (i * 4)).toArray w.drew := by
    rw [hz1]
    exact run_firstCells_some w.drew 4 i ⟨g, 0, none⟩ i c (xs.take (i * 4)) (by rw [List.length_take]; omega) (fun j v hj => by
      rw [Addr.add_lit, Nat.zero_add]
      rw [List.getElem?_take] at hj
      split at hj
      · exact hcx j v hj
      · cases hj)
  have hkk : (n : Int) + 1 - (i : Int) = ((n + 1 - i : Nat) : Int) := by omega
  have hik : i + (n + 1 - i) = n + 1 := by omega
  obtain ⟨G, hG⟩ : ∃ G, grownCap w (n + 1) c 67 = G := ⟨_, rfl⟩
  obtain ⟨X, hX⟩ : ∃ X : Array Value, (xs.take (i * 4)).toArray ++ Builtin.zeroCells (Value.agg #[.int .i64 0, .int .i64 0, .int .i64 0, .slice none 0 0]).cells (n + 1 - i) ++ Builtin.zeroCells (Value.agg #[.int .i64 0, .int .i64 0, .int .i64 0, .slice none 0 0]).cells (G - (n + 1)) = X := ⟨_, rfl⟩
  have hrz : ∀ ty, (Builtin.append_ #[59, 3] ty #[.slice (some ⟨g, 0, none⟩) i c, .int .i64 ((n : Int) + 1 - (i : Int))]).run Try.prog w =
      .ok (.slice (some ⟨w.heap.size, 0, none⟩) (n + 1) G) (w.drew.alloc (.cells X 67)) := fun ty => by
    have h := Lib.run_append_grow_zeros w 59 3 ty 67 i0 _ .i64 .i64 Try.underlying59 Try.underlying3 hi0 hz0 (some ⟨g, 0, none⟩) i c (xs.take (i * 4)) hold (n + 1 - i) (by omega) (by omega) (by omega) (by omega) (by rw [hz2]; omega) (by rw [hz2, hik]; exact growslice_fits (by omega) (by omega))
    rw [hik, hG, hX] at h
    rw [hkk]
    exact h
  have hGn : n + 1 ≤ G := by rw [← hG]; exact grownCap_ge w _ _ _
  have hGm : G ≤ maxLen := by
    rw [← hG]
    exact grownCap_le_maxLen w (n + 1) c 67 (by unfold maxLen; omega)
  have hG63 : G ≤ 9223372036854775807 := by unfold maxLen at hGm; omega
  have hXs : X.size = G * 4 := by
    rw [← hX]
    simp only [Array.size_append, size_zeroCells, List.size_toArray, List.length_take, hxl]
    show min (i * 4) (n * 4) + (n + 1 - i) * 4 + (G - (n + 1)) * 4 = G * 4
    omega
  have hXt : X.toList.take (i * 4) = xs.take (i * 4) := by
    rw [← hX]
    simp only [Array.toList_append, List.append_assoc]
    have hlen : (xs.take (i * 4)).length = i * 4 := by rw [List.length_take]; omega
    exact List.take_left' hlen
  obtain ⟨s1, s2, s3⟩ := grow_list (X := X.toList) (news := news) hi hxl (by rw [Array.length_toList]; omega) hXt hnl
  obtain ⟨X1, hX1⟩ : ∃ X1, X.toList.take (i * 4) ++ news ++ X.toList.drop (i * 4 + news.length) = X1 := ⟨_, rfl⟩
  simp only [hX1] at s1 s2 s3
  have hdl : (xs.drop (i * 4)).length = (n - i) * 4 := by rw [List.length_drop, hxl]; omega
  have hcp1 : ∀ (W : World), W.heap = (w.alloc (.cells X 67)).heap → ∀ ty dc, (Builtin.copy_ #[59, 59] ty #[.slice (some ⟨w.heap.size, i * 4, none⟩) (n + 1 - i) dc, .slice (some ⟨vb, 0, none⟩) 1 vc]).run Try.prog W = .ok (goInt 1) (W.setRow w.heap.size X1.toArray) := fun W hW ty dc => by
    have hm : Nat.min 1 (n + 1 - i) = 1 := Nat.min_eq_left (by omega)
    have hg1 : W.heap[w.heap.size]? = some (.cells X 67 (0, 0)) := by rw [hW]; exact heap_alloc_new w _
    have hv1 : W.heap[vb]? = some (.cells news.toArray 67 (0, 0)) := by rw [hW, Below.heap_alloc w _ vb hvb]; exact hvg
    have h := run_copy_rowN Try.prog W 59 59 ty 67 4 w.heap.size (i * 4) (n + 1 - i) dc ⟨vb, 0, none⟩ 1 vc X 67 news Try.underlying59 region_size hg1 (by rw [hm, hnl]) (fun j u hj => by rw [Addr.add_lit, cell_of_row W vb _ _ _ _ hv1, Nat.zero_add]; simpa using hj) (by omega) h1v
    rw [hm, hX1] at h
    exact h
  have hcp2 : ∀ (W : World), W.heap = ((w.alloc (.cells X 67)).setRow w.heap.size X1.toArray).heap → ∀ ty dc sc, (Builtin.copy_ #[59, 59] ty #[.slice (some ⟨w.heap.size, (i + 1) * 4, none⟩) (n - i) dc, .slice (some ⟨g, i * 4, none⟩) (n - i) sc]).run Try.prog W = .ok (goInt ((n - i : Nat) : Int)) (W.setRow w.heap.size (X1.take ((i + 1) * 4) ++ xs.drop (i * 4) ++ X1.drop ((i + 1) * 4 + (xs.drop (i * 4)).length)).toArray) := fun W hW ty dc sc => by
    have hm : Nat.min (n - i) (n - i) = n - i := Nat.min_self _
    have hg1 : W.heap[w.heap.size]? = some (.cells X1.toArray 67 (0, 0)) := by rw [hW]; exact setRow_heap _ _ X _ _ _ (heap_alloc_new w _)
    have hgg : W.heap[g]? = some (.cells C 67 (0, 0)) := by rw [hW, setRow_other _ _ _ _ (by omega), Below.heap_alloc w _ g hgl]; exact hg
    have h := run_copy_rowN Try.prog W 59 59 ty 67 4 w.heap.size ((i + 1) * 4) (n - i) dc ⟨g, i * 4, none⟩ (n - i) sc X1.toArray 67 (xs.drop (i * 4)) Try.underlying59 region_size hg1 (by rw [hm, hdl]) (fun j u hj => by
      rw [Addr.add_lit, cell_of_row W g _ _ _ _ hgg]
      rw [List.getElem?_drop] at hj
      rw [← cell_of_row w g _ _ _ _ hg]
      exact hcx _ u hj) (by simp only [List.size_toArray, s1, Array.length_toList]; omega) (fun u hu => h1c u (List.mem_of_mem_drop hu))
    rw [hm] at h
    exact h
  have hw1 : IntKind.i64.wrap ((i : Int) + 1) = (i : Int) + 1 := by rw [IntKind.wrap_i64]; omega
  have hb1 : (0 : Int) ≤ (i : Int) + 1 := by omega
  have htn : ((i : Int) + 1).toNat = i + 1 := by omega
  have hin : i ≤ n := by omega
  have hb3 : (i : Int) ≤ (n : Int) := by omega
  have hb5 : (i : Int) ≤ (n : Int) + 1 := by omega
  have hb6 : (i : Int) + 1 ≤ (n : Int) + 1 := by omega
  have hii : n + 1 - (i + 1) = n - i := by omega
  have hGi : ¬ (G = i) := by omega
  have hGim : ¬ (G = i + 1) := by omega
  have hci : ¬ (c = i) := by omega
  have hnr : (c : Int) < (n : Int) + 1 := by omega
  have HF : Hid (∀ W : World, W.heap = (((w.alloc (.cells X 67)).setRow w.heap.size X1.toArray).setRow w.heap.size (X1.take ((i + 1) * 4) ++ xs.drop (i * 4) ++ X1.drop ((i + 1) * 4 + (xs.drop (i * 4)).length)).toArray).heap → W.os = w.os → W.tape = w.tape → W.output = w.output → Inserted w (.slice (some ⟨g, 0, none⟩) n c) (n + 1) (putIn xs news (i * 4)) (.returned (.slice (some ⟨w.heap.size, 0, none⟩) (n + 1) G)) W) := Lib.hid (fun W hW a1 a2 a3 => by
    rw [setRow_setRow] at hW
    refine ⟨⟨_, rfl, ⟨by unfold putIn; simp [hxl, hnl]; omega, .inr ⟨w.heap.size, G, _, rfl, Nat.zero_le _, by rw [hW]; exact setRow_heap _ _ X _ _ _ (heap_alloc_new w _), hGn, hGm, ?_, ?_⟩⟩, .inr ⟨w.heap.size, rfl, Nat.le_refl _⟩⟩, ⟨a1, a2, a3, ?_, ?_⟩⟩
    · rw [List.size_toArray, s2, Array.length_toList]; exact hXs
    · exact s3
    · rw [hW, setRow_size]; simp
    · intro k hk _
      rw [hW, setRow_other _ _ _ _ (by omega), Below.heap_alloc w _ k hk])
  clear s1 s2 s3 hX1 hdl hcx hxl hXt hXs hX hG hGm hold hkk hik hxs hC hvg hg hnl hi0 hz0 hz1 hz2
  have hcp1' := hcp1 ((w.alloc (.cells X 67)).drew) rfl
  have hcp2' := hcp2 ((((w.alloc (.cells X 67)).drew).setRow w.heap.size X1.toArray).drew) rfl
  clear hcp1 hcp2
  go_enter Try.func25, Try.ntmps25
  go_wp2_with (at_builtin; refine Lib.wpList_append_run _ rfl _ _ _ _ rfl _ _ rfl rfl _ _ (hrz _) ?_)
  go_region_law (refine step_copy_runI rfl _ _ 59 59 rfl (.slice (some ⟨w.heap.size, (i + 1) * 4, none⟩) (n - i) (G - (i + 1))) (.slice (some ⟨g, i * 4, none⟩) (n - i) (c - i)) (by simp [Act.eval, Act.put]) (by simp [Act.eval, Act.put]) (hcp2' _ _ _) ?_)
  go_wp2
  go_ret
  exact HF.out _ (by rw [List.append_assoc, List.length_drop]; rfl) rfl rfl rfl

theorem rows_one (Q : List RowP) : ∀ u ∈ Q.flatMap rgC, u.oneCell' = true := by
  intro u hu
  obtain ⟨q, _, hq⟩ := List.mem_flatMap.1 hu
  simp only [rgC, List.mem_cons, List.not_mem_nil, or_false] at hq
  rcases hq with rfl | rfl | rfl | rfl <;> rfl

theorem insert_any (v : Value) (n i vb vc : Nat) (xs news : List Value) (w : World) (hown : w.ownsRow 0 67 4 v n xs) (hi : i ≤ n) (hn : n ≤ 67108864) (hvb : v.ownBlock ≠ some vb) (hvg : w.heap[vb]? = some (.cells news.toArray 67 (0, 0))) (hnl : news.length = 4)
    (h1c : ∀ u ∈ xs, u.oneCell' = true) (h1v : ∀ u ∈ news, u.oneCell' = true) :
    Calls Try.prog 25 #[v, .int .i64 i, .slice (some ⟨vb, 0, none⟩) 1 vc] w (Inserted w v (n + 1) (putIn xs news (i * 4))) := by
  rcases Nat.lt_or_ge i n with h | h
  · rcases hown.2 with ⟨rfl, rfl⟩ | ⟨g, cap, cur, rfl, _, hg, hnc, hcm, hcs, htk⟩
    · omega
    · have hvg' : vb ≠ g := fun e => hvb (by rw [e]; rfl)
      by_cases hroom : n + 1 ≤ cap
      · refine (insert_shift g n cap i vb vc cur xs news w h hroom (by unfold maxLen at hcm; omega) hvg' hg hcs htk hvg hnl h1c h1v).mono ?_
        rintro e w' ⟨rfl, C', h1, h2, rfl⟩
        exact Inserted.shift hi hroom hcm hg hown.1 hnl h1 h2
      · exact insert_grow g n cap i vb vc cur xs news w h hn hnc (by omega) (Array.getElem?_eq_some_iff.1 hvg).1 hg hcs htk hvg hnl h1c h1v
  · have : i = n := by omega
    subst this
    exact insert_end v i vb vc xs news w hown hn hvg hnl h1v
end Go.Proofs.Ytpononkgeeahdaa
