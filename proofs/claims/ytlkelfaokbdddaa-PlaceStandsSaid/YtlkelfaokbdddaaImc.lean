/-
  Layer 9: how an image comes in: rows within rows.
  Conditions: none. (My own text.)
-/
import Derived.Test.YtlkelfaokbdddaaPlr
namespace Go.Proofs.Ytlkelfaokbdddaa
open Go.ChangeShapes Go.WideShapes Go.ChangeAt Go.RowKit Go.Deep Spm
set_option linter.unusedVariables false
set_option linter.unusedSimpArgs false

section
variable {H : Type} {enc : TypeId × Value → H} {P : Program} {w : World} {base : Nat} {spare : Nat → Bool} {held : Bool}
theorem open_rows {α : Type} {n : Nat} {cells : α → List Value} {G : α → Prop} {t e : TypeId} {fuel : Nat} {v : Value} {x : DataW H × List MemPlace} (ht : P.underlying t = some (.slice e)) (hC : P.cellsOf e = n) (h0 : 0 < n)
    (hel : ∀ fuel cs y, DataW.trod enc P w base spare held fuel e cs = some y → ∃ x, cells x = cs ∧ G x) (h : DataW.trod enc P w base spare held fuel t [v] = some x) :
    ∃ l : List α, RowsAt n cells w (fun k => k < w.heap.size) v l ∧ ∀ x ∈ l, G x := by
  rcases DataW.trod_slice ht h with ⟨h1, _⟩ | ⟨a, len, cap, elems, rest, m, _, hcs, _, _, hl, hm, hle, hi, _, _⟩
  · obtain rfl : v = .slice none 0 0 := by simpa using h1
    exact ⟨[], ⟨none, 0, rfl, Nat.le_refl _, Nat.zero_le _, fun i x hx => by simp at hx⟩, by simp⟩
  · obtain rfl : v = .slice (some a) len cap := by simpa using hcs
    obtain ⟨l, hlen, hq⟩ := list_of (Q := fun i (x : α) => G x ∧ (cells x).length = n ∧ ∀ (j : Nat) (u : Value), (cells x)[j]? = some u → w.cell? (a.add (i * n + j)) = some u) len (fun i him => by
      have h1 := hi i him
      rw [hC, List.getElem?_eq_getElem (by omega)] at h1
      obtain ⟨cs, h2, h3⟩ := Option.bind_eq_some_iff.1 h1
      obtain ⟨x, hx, hg⟩ := hel _ _ _ h3
      obtain ⟨_, hcl, hat⟩ := World.cells?_some h2
      refine ⟨x, hg, by rw [hx]; exact hcl, fun j u hu => ?_⟩
      rw [hx] at hu
      have hj : j < n := by have := (List.getElem?_eq_some_iff.1 hu).1; omega
      have hc := hat j hj
      rw [hu, Go.Deep.add_add] at hc
      exact hc)
    refine ⟨l, ⟨some a, cap, by rw [hlen], by omega, hm, fun i x hx => ?_⟩, fun x hx => by obtain ⟨i, hi⟩ := List.mem_iff_getElem?.1 hx; exact (hq i x hi).1⟩
    have hil := (List.getElem?_eq_some_iff.1 hx).1
    obtain ⟨_, hln, hc⟩ := hq i x hx
    have hspot : a.spot = none := by
      have h00 : l[0]? = some (l[0]'(by omega)) := List.getElem?_eq_getElem (by omega)
      obtain ⟨_, hl0, hc0⟩ := hq 0 _ h00
      have := hc0 0 _ (List.getElem?_eq_getElem (by omega))
      exact World.cell?_spot (by simpa [Addr.add] using this)
    obtain ⟨b, off, spot⟩ := a
    simp only at hspot
    subst hspot
    have hat : ∀ j u, (cells x)[j]? = some u → w.cell? ⟨b, off + i * n + j, none⟩ = some u := fun j u hu => by
      have := hc j u hu
      rwa [Go.Addr.add_lit, ← Nat.add_assoc] at this
    have hlt := World.block_lt_of_cell? _ _ (hat 0 _ (List.getElem?_eq_getElem (by omega)))
    exact ⟨b, off, rfl, hlt, hlt, hat⟩
theorem open_fieldI {t : TypeId} {fs : Array Field} {fuel : Nat} {cs : List Value} {x : DataW H × List MemPlace} (hs : P.underlying t = some (.struct fs)) (h : DataW.trod enc P w base spare held fuel t cs = some x) (i : Nat) (f : Field) (hi : fs[i]? = some f) :
    ∃ (n : Nat) (y : DataW H × List MemPlace), DataW.trod enc P w base spare held n f.type ((cs.drop f.offset).take (P.cellsOf f.type)) = some y := by
  obtain ⟨xs, n, _, hx, hl, hlen, hg⟩ := DataW.trod_struct hs h
  have hlt : i < fs.size := (Array.getElem?_eq_some_iff.1 hi).1
  have h1 := hg i f hi
  rw [List.getElem?_eq_getElem (by omega)] at h1
  exact ⟨n, _, h1⟩
theorem open_lenI {t : TypeId} {fs : Array Field} {fuel : Nat} {cs : List Value} {x : DataW H × List MemPlace} (hs : P.underlying t = some (.struct fs)) (h : DataW.trod enc P w base spare held fuel t cs = some x) : cs.length = P.cellsOf t := by
  obtain ⟨xs, n, _, hx, hl, hlen, hg⟩ := DataW.trod_struct hs h
  exact hl
theorem slice_formI {t e : TypeId} {fuel : Nat} {v : Value} {x : DataW H × List MemPlace} (ht : P.underlying t = some (.slice e)) (h : DataW.trod enc P w base spare held fuel t [v] = some x) : ∃ A l c, v = .slice A l c ∧ l ≤ maxLen := by
  rcases DataW.trod_slice ht h with ⟨h0, _⟩ | ⟨a, len, cap, elems, rest, n, _, hcs, _, _, hl, hm, _⟩
  · exact ⟨none, 0, 0, by simpa using h0, Nat.zero_le _⟩
  · exact ⟨some a, len, cap, by simpa using hcs, by omega⟩
end

def strC (s : ByteArray) : List Value := [.string s]
def intC (n : Int) : List Value := [.int .i64 n]
def u64C (n : Int) : List Value := [.int .u64 n]
structure Nd where
  nm : ByteArray
  vl : List ByteArray
  A : Option Addr
  c : Nat
def ndC (x : Nd) : List Value := [.string x.nm, .slice x.A x.vl.length x.c]
structure Bk where
  l : List Int
  A : Option Addr
  c : Nat
def bkC (x : Bk) : List Value := [.slice x.A x.l.length x.c]
structure Sy where
  nm : ByteArray
  ver : ByteArray
  old : Bool
  kind : Int
  weak : Bool
  vis : Int
  dfd : Bool
  val : Int
  sz : Int
def symA (s : Sy) : Array Value := #[.string s.nm, .string s.ver, .bool s.old, .int .i64 s.kind, .bool s.weak, .int .i64 s.vis, .bool s.dfd, .int .i64 s.val, .int .i64 s.sz]
def symC (s : Sy) : List Value := (symA s).toList
structure Rl where
  at_ : Int
  kind : Int
  sym : Int
  add : Int
def rlA (s : Rl) : Array Value := #[.int .i64 s.at_, .int .i64 s.kind, .int .i64 s.sym, .int .i64 s.add]
def rlC (s : Rl) : List Value := (rlA s).toList
structure Sl where
  at_ : Int
  sym : Int
  stub : Int
def slA (s : Sl) : Array Value := #[.int .i64 s.at_, .int .i64 s.sym, .int .i64 s.stub]
def slC (s : Sl) : List Value := (slA s).toList

structure StrsAt (w : World) (P : Nat → Prop) (v : Value) (l : List ByteArray) : Prop where
  rows : RowsAt 1 strC w P v l
  sz : ∀ s ∈ l, s.size ≤ maxLen
structure NdsAt (w : World) (P : Nat → Prop) (v : Value) (l : List Nd) : Prop where
  rows : RowsAt 2 ndC w P v l
  in_ : ∀ x ∈ l, x.nm.size ≤ maxLen ∧ StrsAt w P (.slice x.A x.vl.length x.c) x.vl
structure BksAt (w : World) (P : Nat → Prop) (v : Value) (l : List Bk) : Prop where
  rows : RowsAt 1 bkC w P v l
  in_ : ∀ x ∈ l, RowsAt 1 intC w P (.slice x.A x.l.length x.c) x.l
structure SysAt (w : World) (P : Nat → Prop) (v : Value) (l : List Sy) : Prop where
  rows : RowsAt 9 symC w P v l
  sz : ∀ s ∈ l, s.nm.size ≤ maxLen ∧ s.ver.size ≤ maxLen
theorem StrsAt.keep {w w' : World} {P : Nat → Prop} {v : Value} {l : List ByteArray} (h : StrsAt w P v l) (hk : ∀ k, P k → k < w.heap.size → w'.heap[k]? = w.heap[k]?) : StrsAt w' P v l := ⟨h.rows.keep hk, h.sz⟩
theorem NdsAt.keep {w w' : World} {P : Nat → Prop} {v : Value} {l : List Nd} (h : NdsAt w P v l) (hk : ∀ k, P k → k < w.heap.size → w'.heap[k]? = w.heap[k]?) : NdsAt w' P v l := ⟨h.rows.keep hk, fun x hx => ⟨(h.in_ x hx).1, (h.in_ x hx).2.keep hk⟩⟩
theorem BksAt.keep {w w' : World} {P : Nat → Prop} {v : Value} {l : List Bk} (h : BksAt w P v l) (hk : ∀ k, P k → k < w.heap.size → w'.heap[k]? = w.heap[k]?) : BksAt w' P v l := ⟨h.rows.keep hk, fun x hx => (h.in_ x hx).keep hk⟩
theorem SysAt.keep {w w' : World} {P : Nat → Prop} {v : Value} {l : List Sy} (h : SysAt w P v l) (hk : ∀ k, P k → k < w.heap.size → w'.heap[k]? = w.heap[k]?) : SysAt w' P v l := ⟨h.rows.keep hk, h.sz⟩
/-- An image that came in. -/
structure ImgAt (w : World) (P : Nat → Prop) (m : Img) (vs : Value) (sl : List Sg) : Prop where
  nm : ∃ s, m.c0 = .string s ∧ s.size ≤ maxLen
  fl : ∃ n, m.c1 = .int .i64 n
  segs : SegsAt w P vs sl
  nds : ∃ l, NdsAt w P m.c3 l
  rps : ∃ l, StrsAt w P m.c4 l
  sys : ∃ l, SysAt w P m.c5 l
  bks : ∃ l, BksAt w P m.c6 l
  wds : ∃ l, RowsAt 1 u64C w P m.c7 l
  sh : ∃ n, m.c8 = .int .i64 n
  rls : ∃ l, RowsAt 4 rlC w P m.c9 l
  sls : ∃ l, RowsAt 3 slC w P m.c10 l
  ini : ∃ l, RowsAt 1 intC w P m.c11 l
  fin : ∃ l, RowsAt 1 intC w P m.c12 l
  tls : ∃ A n c, m.c13 = .slice A n c ∧ n ≤ maxLen
  tsz : ∃ n, m.c14 = .int .i64 n
theorem ImgAt.keep {w w' : World} {P : Nat → Prop} {m : Img} {vs : Value} {sl : List Sg} (h : ImgAt w P m vs sl) (hk : ∀ k, P k → k < w.heap.size → w'.heap[k]? = w.heap[k]?) : ImgAt w' P m vs sl :=
  ⟨h.nm, h.fl, h.segs.keep hk, h.nds.imp fun _ x => x.keep hk, h.rps.imp fun _ x => x.keep hk, h.sys.imp fun _ x => x.keep hk, h.bks.imp fun _ x => x.keep hk, h.wds.imp fun _ x => x.keep hk, h.sh, h.rls.imp fun _ x => x.keep hk, h.sls.imp fun _ x => x.keep hk,
    h.ini.imp fun _ x => x.keep hk, h.fin.imp fun _ x => x.keep hk, h.tls, h.tsz⟩
theorem ImgAt.below {w w' : World} {B : Nat} {m : Img} {vs : Value} {sl : List Sg} (h : ImgAt w (fun k => k < B) m vs sl) (hb : Below B w w') : ImgAt w' (fun k => k < B) m vs sl := h.keep fun k hk _ => hb.block k hk

section
variable {H : Type} {enc : TypeId × Value → H} {w : World}
set_option maxRecDepth 100000 in
theorem open_strs {t : TypeId} {fuel : Nat} {v : Value} {y : DataW H × List MemPlace} (ht : Try.prog.underlying t = some (.slice 9)) (h : DataW.trod enc Try.prog w 0 (fun _ => true) true fuel t [v] = some y) : ∃ l, StrsAt w (fun k => k < w.heap.size) v l := by
  obtain ⟨l, h1, h2⟩ := open_rows (n := 1) (cells := strC) (G := fun s : ByteArray => s.size ≤ maxLen) ht (by kernel_rfl) (by decide) (fun fuel cs y hy => by
    obtain ⟨x, e1, _, e2⟩ := DataW.trod_string Try.underlying9 hy
    exact ⟨x, e1.symm, e2⟩) h
  exact ⟨l, h1, h2⟩
theorem open_ints {t e : TypeId} {k : IntKind} (C : Int → List Value) (hCe : ∀ n, C n = [.int k n]) (he : Try.prog.underlying e = some (.int k)) (hz : Try.prog.cellsOf e = 1) {fuel : Nat} {v : Value} {y : DataW H × List MemPlace} (ht : Try.prog.underlying t = some (.slice e)) (h : DataW.trod enc Try.prog w 0 (fun _ => true) true fuel t [v] = some y) : ∃ l, RowsAt 1 C w (fun k => k < w.heap.size) v l := by
  obtain ⟨l, h1, h2⟩ := open_rows (n := 1) (cells := C) (G := fun _ => True) ht hz (by decide) (fun fuel cs y hy => by
    obtain ⟨x, e1, _, e2⟩ := DataW.trod_int he hy
    exact ⟨x, (hCe x).trans e1.symm, trivial⟩) h
  exact ⟨l, h1⟩
set_option maxRecDepth 100000 in
theorem el_seg {fuel : Nat} {cs : List Value} {y : DataW H × List MemPlace} (h : DataW.trod enc Try.prog w 0 (fun _ => true) true fuel 50 cs = some y) : ∃ x, segC x = cs ∧ (I64 x.at_ ∧ I64 x.sz ∧ I64 x.pm ∧ x.b.length ≤ maxLen) ∧ BytesAt w w.heap.size x.A x.b := by
  have hl := open_lenI Try.underlying50 h
  have hC : Try.prog.cellsOf 50 = 4 := by kernel_rfl
  rw [hC] at hl
  obtain ⟨n0, y0, e0⟩ := open_fieldI Try.underlying50 h 0 _ rfl
  have c0 : Try.prog.cellsOf 3 = 1 := by kernel_rfl
  try simp only [c0] at e0
  obtain ⟨n1, y1, e1⟩ := open_fieldI Try.underlying50 h 1 _ rfl
  have c1 : Try.prog.cellsOf 3 = 1 := by kernel_rfl
  try simp only [c1] at e1
  obtain ⟨n2, y2, e2⟩ := open_fieldI Try.underlying50 h 2 _ rfl
  have c2 : Try.prog.cellsOf 37 = 1 := by kernel_rfl
  try simp only [c2] at e2
  obtain ⟨n3, y3, e3⟩ := open_fieldI Try.underlying50 h 3 _ rfl
  have c3 : Try.prog.cellsOf 48 = 1 := by kernel_rfl
  try simp only [c3] at e3
  match cs, hl with
  | [a0, a1, a2, a3], _ =>
  simp at e0
  simp at e1
  simp at e2
  simp at e3
  obtain ⟨x0, rfl, w0⟩ := int_cell Try.underlying3 e0
  obtain ⟨x1, rfl, w1⟩ := int_cell Try.underlying3 e1
  obtain ⟨A2, x2, k2, rfl, w2, g2⟩ := open_bytes Try.underlying37 e2
  obtain ⟨x3, rfl, w3⟩ := int_cell Try.underlying48 e3
  exact ⟨⟨x0, x1, x2, A2, k2, x3⟩, rfl, ⟨i64_of w0, i64_of w1, i64_of w3, w2⟩, g2⟩
set_option maxRecDepth 100000 in
theorem el_nd {fuel : Nat} {cs : List Value} {y : DataW H × List MemPlace} (h : DataW.trod enc Try.prog w 0 (fun _ => true) true fuel 99 cs = some y) : ∃ x, ndC x = cs ∧ (x.nm.size ≤ maxLen ∧ StrsAt w (fun k => k < w.heap.size) (.slice x.A x.vl.length x.c) x.vl) := by
  have hl := open_lenI Try.underlying99 h
  have hC : Try.prog.cellsOf 99 = 2 := by kernel_rfl
  rw [hC] at hl
  obtain ⟨n0, y0, e0⟩ := open_fieldI Try.underlying99 h 0 _ rfl
  have c0 : Try.prog.cellsOf 9 = 1 := by kernel_rfl
  try simp only [c0] at e0
  obtain ⟨n1, y1, e1⟩ := open_fieldI Try.underlying99 h 1 _ rfl
  have c1 : Try.prog.cellsOf 26 = 1 := by kernel_rfl
  try simp only [c1] at e1
  match cs, hl with
  | [a0, a1], _ =>
  simp at e0
  simp at e1
  obtain ⟨x0, rfl, w0⟩ := string_cell Try.underlying9 e0
  obtain ⟨x1, g1⟩ := open_strs Try.underlying26 e1
  obtain ⟨A1, k1, rfl, _, _, _⟩ := g1.rows
  exact ⟨⟨x0, x1, A1, k1⟩, rfl, w0, g1⟩
set_option maxRecDepth 100000 in
theorem el_sy {fuel : Nat} {cs : List Value} {y : DataW H × List MemPlace} (h : DataW.trod enc Try.prog w 0 (fun _ => true) true fuel 103 cs = some y) : ∃ x, symC x = cs ∧ (x.nm.size ≤ maxLen ∧ x.ver.size ≤ maxLen) := by
  have hl := open_lenI Try.underlying103 h
  have hC : Try.prog.cellsOf 103 = 9 := by kernel_rfl
  rw [hC] at hl
  obtain ⟨n0, y0, e0⟩ := open_fieldI Try.underlying103 h 0 _ rfl
  have c0 : Try.prog.cellsOf 9 = 1 := by kernel_rfl
  try simp only [c0] at e0
  obtain ⟨n1, y1, e1⟩ := open_fieldI Try.underlying103 h 1 _ rfl
  have c1 : Try.prog.cellsOf 9 = 1 := by kernel_rfl
  try simp only [c1] at e1
  obtain ⟨n2, y2, e2⟩ := open_fieldI Try.underlying103 h 2 _ rfl
  have c2 : Try.prog.cellsOf 4 = 1 := by kernel_rfl
  try simp only [c2] at e2
  obtain ⟨n3, y3, e3⟩ := open_fieldI Try.underlying103 h 3 _ rfl
  have c3 : Try.prog.cellsOf 100 = 1 := by kernel_rfl
  try simp only [c3] at e3
  obtain ⟨n4, y4, e4⟩ := open_fieldI Try.underlying103 h 4 _ rfl
  have c4 : Try.prog.cellsOf 4 = 1 := by kernel_rfl
  try simp only [c4] at e4
  obtain ⟨n5, y5, e5⟩ := open_fieldI Try.underlying103 h 5 _ rfl
  have c5 : Try.prog.cellsOf 101 = 1 := by kernel_rfl
  try simp only [c5] at e5
  obtain ⟨n6, y6, e6⟩ := open_fieldI Try.underlying103 h 6 _ rfl
  have c6 : Try.prog.cellsOf 4 = 1 := by kernel_rfl
  try simp only [c6] at e6
  obtain ⟨n7, y7, e7⟩ := open_fieldI Try.underlying103 h 7 _ rfl
  have c7 : Try.prog.cellsOf 3 = 1 := by kernel_rfl
  try simp only [c7] at e7
  obtain ⟨n8, y8, e8⟩ := open_fieldI Try.underlying103 h 8 _ rfl
  have c8 : Try.prog.cellsOf 3 = 1 := by kernel_rfl
  try simp only [c8] at e8
  match cs, hl with
  | [a0, a1, a2, a3, a4, a5, a6, a7, a8], _ =>
  simp at e0
  simp at e1
  simp at e2
  simp at e3
  simp at e4
  simp at e5
  simp at e6
  simp at e7
  simp at e8
  obtain ⟨x0, rfl, w0⟩ := string_cell Try.underlying9 e0
  obtain ⟨x1, rfl, w1⟩ := string_cell Try.underlying9 e1
  obtain ⟨x2, rfl⟩ := bool_cell Try.underlying4 e2
  obtain ⟨x3, rfl, w3⟩ := int_cell Try.underlying100 e3
  obtain ⟨x4, rfl⟩ := bool_cell Try.underlying4 e4
  obtain ⟨x5, rfl, w5⟩ := int_cell Try.underlying101 e5
  obtain ⟨x6, rfl⟩ := bool_cell Try.underlying4 e6
  obtain ⟨x7, rfl, w7⟩ := int_cell Try.underlying3 e7
  obtain ⟨x8, rfl, w8⟩ := int_cell Try.underlying3 e8
  exact ⟨⟨x0, x1, x2, x3, x4, x5, x6, x7, x8⟩, rfl, w0, w1⟩
set_option maxRecDepth 100000 in
theorem el_rl {fuel : Nat} {cs : List Value} {y : DataW H × List MemPlace} (h : DataW.trod enc Try.prog w 0 (fun _ => true) true fuel 116 cs = some y) : ∃ x, rlC x = cs ∧ True := by
  have hl := open_lenI Try.underlying116 h
  have hC : Try.prog.cellsOf 116 = 4 := by kernel_rfl
  rw [hC] at hl
  obtain ⟨n0, y0, e0⟩ := open_fieldI Try.underlying116 h 0 _ rfl
  have c0 : Try.prog.cellsOf 3 = 1 := by kernel_rfl
  try simp only [c0] at e0
  obtain ⟨n1, y1, e1⟩ := open_fieldI Try.underlying116 h 1 _ rfl
  have c1 : Try.prog.cellsOf 114 = 1 := by kernel_rfl
  try simp only [c1] at e1
  obtain ⟨n2, y2, e2⟩ := open_fieldI Try.underlying116 h 2 _ rfl
  have c2 : Try.prog.cellsOf 3 = 1 := by kernel_rfl
  try simp only [c2] at e2
  obtain ⟨n3, y3, e3⟩ := open_fieldI Try.underlying116 h 3 _ rfl
  have c3 : Try.prog.cellsOf 3 = 1 := by kernel_rfl
  try simp only [c3] at e3
  match cs, hl with
  | [a0, a1, a2, a3], _ =>
  simp at e0
  simp at e1
  simp at e2
  simp at e3
  obtain ⟨x0, rfl, w0⟩ := int_cell Try.underlying3 e0
  obtain ⟨x1, rfl, w1⟩ := int_cell Try.underlying114 e1
  obtain ⟨x2, rfl, w2⟩ := int_cell Try.underlying3 e2
  obtain ⟨x3, rfl, w3⟩ := int_cell Try.underlying3 e3
  exact ⟨⟨x0, x1, x2, x3⟩, rfl, trivial⟩
set_option maxRecDepth 100000 in
theorem el_sl {fuel : Nat} {cs : List Value} {y : DataW H × List MemPlace} (h : DataW.trod enc Try.prog w 0 (fun _ => true) true fuel 119 cs = some y) : ∃ x, slC x = cs ∧ True := by
  have hl := open_lenI Try.underlying119 h
  have hC : Try.prog.cellsOf 119 = 3 := by kernel_rfl
  rw [hC] at hl
  obtain ⟨n0, y0, e0⟩ := open_fieldI Try.underlying119 h 0 _ rfl
  have c0 : Try.prog.cellsOf 3 = 1 := by kernel_rfl
  try simp only [c0] at e0
  obtain ⟨n1, y1, e1⟩ := open_fieldI Try.underlying119 h 1 _ rfl
  have c1 : Try.prog.cellsOf 3 = 1 := by kernel_rfl
  try simp only [c1] at e1
  obtain ⟨n2, y2, e2⟩ := open_fieldI Try.underlying119 h 2 _ rfl
  have c2 : Try.prog.cellsOf 3 = 1 := by kernel_rfl
  try simp only [c2] at e2
  match cs, hl with
  | [a0, a1, a2], _ =>
  simp at e0
  simp at e1
  simp at e2
  obtain ⟨x0, rfl, w0⟩ := int_cell Try.underlying3 e0
  obtain ⟨x1, rfl, w1⟩ := int_cell Try.underlying3 e1
  obtain ⟨x2, rfl, w2⟩ := int_cell Try.underlying3 e2
  exact ⟨⟨x0, x1, x2⟩, rfl, trivial⟩
set_option maxRecDepth 100000 in
theorem el_bk {fuel : Nat} {cs : List Value} {y : DataW H × List MemPlace} (h : DataW.trod enc Try.prog w 0 (fun _ => true) true fuel 36 cs = some y) : ∃ x, bkC x = cs ∧ RowsAt 1 intC w (fun k => k < w.heap.size) (.slice x.A x.l.length x.c) x.l := by
  obtain ⟨v, rfl⟩ : ∃ v, cs = [v] := by
    rcases DataW.trod_slice Try.underlying36 h with ⟨h0, _⟩ | ⟨a, len, cap, elems, rest, n, _, hcs, _⟩
    · exact ⟨_, h0⟩
    · exact ⟨_, hcs⟩
  obtain ⟨l, hr⟩ := open_ints intC (fun _ => rfl) Try.underlying3 (by kernel_rfl) Try.underlying36 h
  obtain ⟨A, c, rfl, _, _, _⟩ := id hr
  exact ⟨⟨l, A, c⟩, rfl, hr⟩
set_option maxRecDepth 100000 in
theorem open_segsI {t : TypeId} {fuel : Nat} {v : Value} {y : DataW H × List MemPlace} (ht : Try.prog.underlying t = some (.slice 50)) (h : DataW.trod enc Try.prog w 0 (fun _ => true) true fuel t [v] = some y) : ∃ l, SegsAt w (fun k => k < w.heap.size) v l := by
  obtain ⟨l, h1, h2⟩ := open_rows (n := 4) (cells := segC) ht (by kernel_rfl) (by decide) (fun fuel cs y hy => el_seg hy) h
  exact ⟨l, h1, fun s hs hn => by
    obtain ⟨bb, off, k1, k2, k3⟩ := (h2 s hs).2 hn
    exact ⟨bb, off, k1, k2, k2, k3⟩, fun s hs => (h2 s hs).1⟩
set_option maxRecDepth 100000 in
theorem el_img {fuel : Nat} {cs : List Value} {y : DataW H × List MemPlace} (h : DataW.trod enc Try.prog w 0 (fun _ => true) true fuel 39 cs = some y) : ∃ (x : Img × Value × List Sg), (imgA x.1 x.2.1).toList = cs ∧ ImgAt w (fun k => k < w.heap.size) x.1 x.2.1 x.2.2 := by
  have hl := open_lenI Try.underlying39 h
  have hC : Try.prog.cellsOf 39 = 15 := by kernel_rfl
  rw [hC] at hl
  obtain ⟨n0, y0, e0⟩ := open_fieldI Try.underlying39 h 0 _ rfl
  have c0 : Try.prog.cellsOf 9 = 1 := by kernel_rfl
  try simp only [c0] at e0
  obtain ⟨n1, y1, e1⟩ := open_fieldI Try.underlying39 h 1 _ rfl
  have c1 : Try.prog.cellsOf 23 = 1 := by kernel_rfl
  try simp only [c1] at e1
  obtain ⟨n2, y2, e2⟩ := open_fieldI Try.underlying39 h 2 _ rfl
  have c2 : Try.prog.cellsOf 24 = 1 := by kernel_rfl
  try simp only [c2] at e2
  obtain ⟨n3, y3, e3⟩ := open_fieldI Try.underlying39 h 3 _ rfl
  have c3 : Try.prog.cellsOf 25 = 1 := by kernel_rfl
  try simp only [c3] at e3
  obtain ⟨n4, y4, e4⟩ := open_fieldI Try.underlying39 h 4 _ rfl
  have c4 : Try.prog.cellsOf 26 = 1 := by kernel_rfl
  try simp only [c4] at e4
  obtain ⟨n5, y5, e5⟩ := open_fieldI Try.underlying39 h 5 _ rfl
  have c5 : Try.prog.cellsOf 27 = 1 := by kernel_rfl
  try simp only [c5] at e5
  obtain ⟨n6, y6, e6⟩ := open_fieldI Try.underlying39 h 6 _ rfl
  have c6 : Try.prog.cellsOf 33 = 3 := by kernel_rfl
  try simp only [c6] at e6
  obtain ⟨n7, y7, e7⟩ := open_fieldI Try.underlying39 h 7 _ rfl
  have c7 : Try.prog.cellsOf 34 = 1 := by kernel_rfl
  try simp only [c7] at e7
  obtain ⟨n8, y8, e8⟩ := open_fieldI Try.underlying39 h 8 _ rfl
  have c8 : Try.prog.cellsOf 35 = 1 := by kernel_rfl
  try simp only [c8] at e8
  obtain ⟨n9, y9, e9⟩ := open_fieldI Try.underlying39 h 9 _ rfl
  have c9 : Try.prog.cellsOf 36 = 1 := by kernel_rfl
  try simp only [c9] at e9
  obtain ⟨n10, y10, e10⟩ := open_fieldI Try.underlying39 h 10 _ rfl
  have c10 : Try.prog.cellsOf 36 = 1 := by kernel_rfl
  try simp only [c10] at e10
  obtain ⟨n11, y11, e11⟩ := open_fieldI Try.underlying39 h 11 _ rfl
  have c11 : Try.prog.cellsOf 37 = 1 := by kernel_rfl
  try simp only [c11] at e11
  obtain ⟨n12, y12, e12⟩ := open_fieldI Try.underlying39 h 12 _ rfl
  have c12 : Try.prog.cellsOf 3 = 1 := by kernel_rfl
  try simp only [c12] at e12
  match cs, hl with
  | [a0, a1, a2, a3, a4, a5, a6, a7, a8, a9, a10, a11, a12, a13, a14], _ =>
  simp at e0
  simp at e1
  simp at e2
  simp at e3
  simp at e4
  simp at e5
  simp at e6
  simp at e7
  simp at e8
  simp at e9
  simp at e10
  simp at e11
  simp at e12
  obtain ⟨nb, yb, eb⟩ := open_fieldI Try.underlying33 e6 0 _ rfl
  have cb : Try.prog.cellsOf 28 = 1 := by kernel_rfl
  try simp only [cb] at eb
  simp at eb
  obtain ⟨nf, yf, ef⟩ := open_fieldI Try.underlying33 e6 1 _ rfl
  have cf : Try.prog.cellsOf 31 = 2 := by kernel_rfl
  try simp only [cf] at ef
  simp at ef
  obtain ⟨nw, yw, ew⟩ := open_fieldI Try.underlying31 ef 0 _ rfl
  have cw : Try.prog.cellsOf 29 = 1 := by kernel_rfl
  try simp only [cw] at ew
  simp at ew
  obtain ⟨ns, ys, es⟩ := open_fieldI Try.underlying31 ef 1 _ rfl
  have cs : Try.prog.cellsOf 3 = 1 := by kernel_rfl
  try simp only [cs] at es
  simp at es
  obtain ⟨bl, gb⟩ := open_rows (n := 1) (cells := bkC) Try.underlying28 (by kernel_rfl) (by decide) (fun fuel cs y hy => el_bk hy) eb
  obtain ⟨wl, gw⟩ := open_ints u64C (fun _ => rfl) Try.underlying131 (by kernel_rfl) Try.underlying29 ew
  obtain ⟨xs, rfl, ws⟩ := int_cell Try.underlying3 es
  obtain ⟨x0, rfl, w0⟩ := string_cell Try.underlying9 e0
  obtain ⟨x1, rfl, w1⟩ := int_cell Try.underlying23 e1
  obtain ⟨x2, g2⟩ := open_segsI Try.underlying24 e2
  obtain ⟨x3, g3⟩ := open_rows (n := 2) (cells := ndC) Try.underlying25 (by kernel_rfl) (by decide) (fun fuel cs y hy => el_nd hy) e3
  obtain ⟨x4, g4⟩ := open_strs Try.underlying26 e4
  obtain ⟨x5, g5⟩ := open_rows (n := 9) (cells := symC) Try.underlying27 (by kernel_rfl) (by decide) (fun fuel cs y hy => el_sy hy) e5
  obtain ⟨x7, g7⟩ := open_rows (n := 4) (cells := rlC) Try.underlying34 (by kernel_rfl) (by decide) (fun fuel cs y hy => el_rl hy) e7
  obtain ⟨x8, g8⟩ := open_rows (n := 3) (cells := slC) Try.underlying35 (by kernel_rfl) (by decide) (fun fuel cs y hy => el_sl hy) e8
  obtain ⟨x9, g9⟩ := open_ints intC (fun _ => rfl) Try.underlying3 (by kernel_rfl) Try.underlying36 e9
  obtain ⟨x10, g10⟩ := open_ints intC (fun _ => rfl) Try.underlying3 (by kernel_rfl) Try.underlying36 e10
  obtain ⟨A11, m11, k11, rfl, w11⟩ := slice_formI Try.underlying37 e11
  obtain ⟨x12, rfl, w12⟩ := int_cell Try.underlying3 e12
  exact ⟨(⟨.string x0, .int .i64 x1, a3, a4, a5, a6, a7, .int .i64 xs, a9, a10, a11, a12, .slice A11 m11 k11, .int .i64 x12⟩, a2, x2), rfl, ⟨x0, rfl, w0⟩, ⟨x1, rfl⟩, g2, ⟨x3, g3.1, g3.2⟩, ⟨x4, g4⟩, ⟨x5, g5.1, g5.2⟩, ⟨bl, gb.1, gb.2⟩, ⟨wl, gw⟩, ⟨xs, rfl⟩, ⟨x7, g7.1⟩, ⟨x8, g8.1⟩, ⟨x9, g9⟩, ⟨x10, g10⟩, ⟨A11, m11, k11, rfl, w11⟩, ⟨x12, rfl⟩⟩
set_option maxRecDepth 100000 in
theorem open_img {r : Reach} {b0 : Nat} {v : Value} {d : DataW H} {p : List MemPlace} (hv : Value.okWide Try.prog w r b0 39 v) (h : DataW.Trod enc Try.prog w 0 (fun _ => true) true 39 v d p) :
    ∃ m vs sl, v = .agg (imgA m vs) ∧ ImgAt w (fun k => k < w.heap.size) m vs sl := by
  obtain ⟨cs, rfl, hsz⟩ := okWide_struct Try.underlying39 hv
  obtain ⟨fuel, hf⟩ := h
  obtain ⟨⟨m, vs, sl⟩, h1, h2⟩ := el_img hf
  refine ⟨m, vs, sl, ?_, h2⟩
  have e : (Value.agg cs).cells.toList = cs.toList := rfl
  rw [e] at h1
  rw [← Array.toList_inj.1 h1]
set_option maxRecDepth 100000 in
theorem open_imgs {t : TypeId} {r : Reach} {b0 : Nat} {v : Value} {d : DataW H} {p : List MemPlace} (ht : Try.prog.underlying t = some (.slice 39)) (hv : Value.okWide Try.prog w r b0 t v) (h : DataW.Trod enc Try.prog w 0 (fun _ => true) true t v d p) :
    ∃ l : List (Img × Value × List Sg), RowsAt 15 (fun x => (imgA x.1 x.2.1).toList) w (fun k => k < w.heap.size) v l ∧ ∀ x ∈ l, ImgAt w (fun k => k < w.heap.size) x.1 x.2.1 x.2.2 := by
  obtain ⟨a0, len0, cap0, rfl⟩ := okWide_slice ht hv
  obtain ⟨fuel, hf⟩ := h
  exact open_rows (n := 15) (cells := fun x : Img × Value × List Sg => (imgA x.1 x.2.1).toList) ht (by kernel_rfl) (by decide) (fun fuel cs y hy => el_img hy) (by simpa [Value.cells] using hf)
end
end Go.Proofs.Ytlkelfaokbdddaa
