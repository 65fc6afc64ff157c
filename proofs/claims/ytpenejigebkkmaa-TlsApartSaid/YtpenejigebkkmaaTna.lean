/-
  Layer 17: tls.Blocks.
  Conditions: none. (My own text.)
-/
import Derived.Test.YtpenejigebkkmaaTmz
import Derived.Test.YtpenejigebkkmaaTmi
namespace Go.Proofs.Ytpenejigebkkmaa
open Go.RowKit Spm
set_option linter.unusedVariables false
set_option linter.unusedSimpArgs false

def bkC (x : Bk) : List Value := [.int .i64 x.md, .int .i64 x.gn, .int .i64 x.at_, .int .i64 x.sz]
set_option maxRecDepth 100000 in
theorem blk_info : (Try.prog.info? 44).map (fun i => (i.zero, i.size, i.bytes)) = some (some (.agg #[.int .i64 0, .int .i64 0, .int .i64 0, .int .i64 0]), 4, 32) := by kernel_rfl
def keysS (t : Ts) : List Int := (t.ml.map MdE.k).mergeSort leI
/-- A thread's block of a module, if there is one. -/
def blk1 (ml : List MdE) (x : ThE) (n : Int) : Option Bk := match efind MdE.k ml n with
  | none => none
  | some m => if m.x.st = true then some ⟨n, m.x.gen, wrap64 (x.tp + m.x.bh), m.x.size⟩ else (efind BkE.k x.bl n).map (·.x)
def blksS (t : Ts) (id : Int) : List Bk := match efind ThE.k t.tl id with
  | none => []
  | some x => (keysS t).filterMap (blk1 t.ml x)

/-! Rows of blocks, of numbers, as things. -/
def Bks (v : Value) (l : List Bk) : Res := fun w F => w.ownsRow 0 44 4 v l.length (l.flatMap bkC) ∧ ∀ g, v.ownBlock = some g → F g
instance fr_bks (v : Value) (l : List Bk) : Fr (Bks v l) := fr_row
def Ks (v : Value) (l : List Int) : Res := fun w F => w.ownsRow 0 3 1 v l.length (l.map (Value.int .i64)) ∧ ∀ g, v.ownBlock = some g → F g
instance fr_ks (v : Value) (l : List Int) : Fr (Ks v l) := fr_row
theorem owns_raise {w : World} {b b' : Nat} {e : TypeId} {size : Nat} {v : Value} {n : Nat} {xs : List Value} (h : w.ownsRow b e size v n xs) (hb : ∀ g, v.ownBlock = some g → b' ≤ g) : w.ownsRow b' e size v n xs :=
  ⟨h.1, by
    rcases h.2 with h | ⟨g, cap, cur, hv, h1, h2⟩
    · exact .inl h
    · exact .inr ⟨g, cap, cur, hv, hb g (by rw [hv]; rfl), h2⟩⟩
theorem Ks.src {w : World} {F : Nat → Prop} {v : Value} {l : List Int} (h : Ks v l w F) : ∃ A c, v = .slice A l.length c ∧ c ≤ maxLen ∧ ∀ k x, l[k]? = some x → ∃ g, A = some ⟨g, 0, none⟩ ∧ w.cell? ⟨g, k, none⟩ = some (.int .i64 x) := by
  obtain ⟨h, -⟩ := h
  rcases h.2 with ⟨hv, hn⟩ | ⟨g, cap, cur, hv, hb, hg, hl, hm, hs, ht⟩
  · exact ⟨none, 0, by rw [hv, hn], Nat.zero_le _, fun k x hx => by
      rw [List.eq_nil_of_length_eq_zero hn] at hx
      simp at hx⟩
  · refine ⟨some ⟨g, 0, none⟩, cap, hv, hm, fun k x hk => ⟨g, rfl, ?_⟩⟩
    have h9 := h.cells (g := g) (by rw [hv]; rfl) k (.int .i64 x) (by rw [List.getElem?_map, hk]; rfl)
    rwa [Addr.add_lit, Nat.zero_add] at h9
theorem fm_snoc {α β : Type} (f : α → Option β) (l : List α) (k : Nat) (x : α) (h : l[k]? = some x) : (l.take (k + 1)).filterMap f = (l.take k).filterMap f ++ (f x).toList := by
  rw [List.take_add_one, h, List.filterMap_append]
  cases hf : f x <;> simp [hf]
theorem fm_len {α β : Type} (f : α → Option β) : ∀ l : List α, (l.filterMap f).length ≤ l.length
  | [] => Nat.le_refl _
  | x :: l => by
    have := fm_len f l
    rw [List.filterMap_cons]
    cases f x <;> simp <;> omega
theorem nodup_len : ∀ (n : Nat) (l : List Int), l.Nodup → (∀ x ∈ l, 1 ≤ x ∧ x ≤ (n : Int)) → l.length ≤ n
  | 0, l, _, h => by
    cases l with
    | nil => exact Nat.le_refl _
    | cons x l => have := h x (by simp); omega
  | n + 1, l, hn, h => by
    have h2 := nodup_len n (l.erase ((n : Int) + 1)) (hn.erase _) (fun x hx => by
      have h3 := (hn.mem_erase_iff).1 hx
      have h4 := h x h3.2
      have h5 : x ≠ (n : Int) + 1 := h3.1
      omega)
    have h6 : l.length - 1 ≤ (l.erase ((n : Int) + 1)).length := by
      rw [List.length_erase]
      split <;> omega
    omega
structure MdsNum (l : List MdE) : Prop where
  nd : (l.map MdE.k).Nodup
  lo : ∀ m ∈ l, 1 ≤ m.k
  hi : ∀ m ∈ l, m.k ≤ 64
theorem MdsNum.len {l : List MdE} (h : MdsNum l) : l.length ≤ 64 := by
  have := nodup_len 64 (l.map MdE.k) h.nd (fun x hx => by
    obtain ⟨m, hm, rfl⟩ := List.mem_map.1 hx
    exact ⟨h.lo m hm, h.hi m hm⟩)
  rwa [List.length_map] at this
theorem keysS_len (t : Ts) : (keysS t).length = t.ml.length := by unfold keysS; rw [List.length_mergeSort, List.length_map]
theorem keysS_mem {t : Ts} {n : Int} : n ∈ keysS t ↔ n ∈ t.ml.map MdE.k := by unfold keysS; exact List.mem_mergeSort
theorem efind_inL {x : MdE} : ∀ {l : List MdE}, (l.map MdE.k).Nodup → x ∈ l → efind MdE.k l x.k = some x
  | [], _, h => by simp at h
  | y :: l, hn, h => by
    rw [List.map_cons, List.nodup_cons] at hn
    unfold efind
    rcases List.mem_cons.1 h with rfl | h
    · rw [if_pos rfl]
    · rw [if_neg (fun e => hn.1 (by rw [← e]; exact List.mem_map_of_mem h))]
      exact efind_inL hn.2 h
theorem efind_key {l : List MdE} (hn : (l.map MdE.k).Nodup) {n : Int} (h : n ∈ l.map MdE.k) : ∃ m, efind MdE.k l n = some m := by
  obtain ⟨m, hm, rfl⟩ := List.mem_map.1 h
  exact ⟨m, efind_inL hn hm⟩
end Go.Proofs.Ytpenejigebkkmaa
