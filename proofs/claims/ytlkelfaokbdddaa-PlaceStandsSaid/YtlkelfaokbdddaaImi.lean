/-
  Layer 9: an image, its data.
  Conditions: none. (My own text.)
-/
import Derived.Test.YtlkelfaokbdddaaImc
import Derived.Test.YtlkelfaokbdddaaImd
namespace Go.Proofs.Ytlkelfaokbdddaa
open Go.RowKit Spm
set_option linter.unusedVariables false
set_option linter.unusedSimpArgs false

structure ImgD where
  nm : ByteArray
  fl : Int
  sl : List Sg
  sA : Option Addr
  sC : Nat
  nd : List Nd
  nA : Option Addr
  nC : Nat
  rp : List ByteArray
  rA : Option Addr
  rC : Nat
  sy : List Sy
  yA : Option Addr
  yC : Nat
  bk : List Bk
  bA : Option Addr
  bC : Nat
  wd : List Int
  wA : Option Addr
  wC : Nat
  sh : Int
  rl : List Rl
  lA : Option Addr
  lC : Nat
  st : List Sl
  tA : Option Addr
  tC : Nat
  ini : List Int
  iA : Option Addr
  iC : Nat
  fin : List Int
  fA : Option Addr
  fC : Nat
  xA : Option Addr
  xn : Nat
  xC : Nat
  tz : Int
def imgD (d : ImgD) : Array Value := #[.string d.nm, .int .i64 d.fl, .slice d.sA d.sl.length d.sC, .slice d.nA d.nd.length d.nC, .slice d.rA d.rp.length d.rC, .slice d.yA d.sy.length d.yC, .slice d.bA d.bk.length d.bC, .slice d.wA d.wd.length d.wC, .int .i64 d.sh, .slice d.lA d.rl.length d.lC, .slice d.tA d.st.length d.tC, .slice d.iA d.ini.length d.iC, .slice d.fA d.fin.length d.fC, .slice d.xA d.xn d.xC, .int .i64 d.tz]
def ImgD.img (d : ImgD) : Img := ⟨.string d.nm, .int .i64 d.fl, .slice d.nA d.nd.length d.nC, .slice d.rA d.rp.length d.rC, .slice d.yA d.sy.length d.yC, .slice d.bA d.bk.length d.bC, .slice d.wA d.wd.length d.wC, .int .i64 d.sh, .slice d.lA d.rl.length d.lC, .slice d.tA d.st.length d.tC, .slice d.iA d.ini.length d.iC, .slice d.fA d.fin.length d.fC, .slice d.xA d.xn d.xC, .int .i64 d.tz⟩
def ImgD.segs (d : ImgD) : Value := .slice d.sA d.sl.length d.sC
theorem imgD_eq (d : ImgD) : imgD d = imgA d.img d.segs := rfl
structure ImgOk (w : World) (P : Nat → Prop) (d : ImgD) : Prop where
  nm : d.nm.size ≤ maxLen
  segs : SegsAt w P (.slice d.sA d.sl.length d.sC) d.sl
  nds : NdsAt w P (.slice d.nA d.nd.length d.nC) d.nd
  rps : StrsAt w P (.slice d.rA d.rp.length d.rC) d.rp
  sys : SysAt w P (.slice d.yA d.sy.length d.yC) d.sy
  bks : BksAt w P (.slice d.bA d.bk.length d.bC) d.bk
  wds : RowsAt 1 u64C w P (.slice d.wA d.wd.length d.wC) d.wd
  rls : RowsAt 4 rlC w P (.slice d.lA d.rl.length d.lC) d.rl
  sls : RowsAt 3 slC w P (.slice d.tA d.st.length d.tC) d.st
  ini : RowsAt 1 intC w P (.slice d.iA d.ini.length d.iC) d.ini
  fin : RowsAt 1 intC w P (.slice d.fA d.fin.length d.fC) d.fin
  xn : d.xn ≤ maxLen
theorem ImgOk.keep {w w' : World} {P : Nat → Prop} {d : ImgD} (h : ImgOk w P d) (hk : ∀ k, P k → k < w.heap.size → w'.heap[k]? = w.heap[k]?) : ImgOk w' P d :=
  ⟨h.nm, h.segs.keep hk, h.nds.keep hk, h.rps.keep hk, h.sys.keep hk, h.bks.keep hk, h.wds.keep hk, h.rls.keep hk, h.sls.keep hk, h.ini.keep hk, h.fin.keep hk, h.xn⟩
theorem ImgOk.stay {w w' : World} {P : Nat → Prop} {d : ImgD} (h : ImgOk w P d) (hb : Below w.heap.size w w') : ImgOk w' P d := h.keep fun k _ hk => hb.block k hk
theorem ImgOk.below {w w' : World} {B : Nat} {d : ImgD} (h : ImgOk w (fun k => k < B) d) (hb : Below B w w') : ImgOk w' (fun k => k < B) d := h.keep fun k hk _ => hb.block k hk
theorem ImgAt.data {w : World} {P : Nat → Prop} {m : Img} {vs : Value} {sl : List Sg} (h : ImgAt w P m vs sl) : ∃ d : ImgD, imgA m vs = imgD d ∧ ImgOk w P d ∧ d.sl = sl ∧ d.img = m ∧ d.segs = vs := by
  obtain ⟨c0, c1, c3, c4, c5, c6, c7, c8, c9, c10, c11, c12, c13, c14⟩ := m
  obtain ⟨⟨nm, e0, k0⟩, ⟨fl, e1⟩, hs, ⟨nd, hnd⟩, ⟨rp, hrp⟩, ⟨sy, hsy⟩, ⟨bk, hbk⟩, ⟨wd, hwd⟩, ⟨sh, e8⟩, ⟨rl, hrl⟩, ⟨st, hst⟩, ⟨ini, hini⟩, ⟨fin, hfin⟩, ⟨xA, xn, xC, e13, hx⟩, ⟨tz, e14⟩⟩ := h
  simp only at e0 e1 e8 e13 e14 hnd hrp hsy hbk hwd hrl hst hini hfin
  subst e0 e1 e8 e13 e14
  obtain ⟨sA, sC, rfl, _, _, _⟩ := id hs.rows
  obtain ⟨nA, nC, rfl, _, _, _⟩ := id hnd.rows
  obtain ⟨rA, rC, rfl, _, _, _⟩ := id hrp.rows
  obtain ⟨yA, yC, rfl, _, _, _⟩ := id hsy.rows
  obtain ⟨bA, bC, rfl, _, _, _⟩ := id hbk.rows
  obtain ⟨wA, wC, rfl, _, _, _⟩ := id hwd
  obtain ⟨lA, lC, rfl, _, _, _⟩ := id hrl
  obtain ⟨tA, tC, rfl, _, _, _⟩ := id hst
  obtain ⟨iA, iC, rfl, _, _, _⟩ := id hini
  obtain ⟨fA, fC, rfl, _, _, _⟩ := id hfin
  exact ⟨⟨nm, fl, sl, sA, sC, nd, nA, nC, rp, rA, rC, sy, yA, yC, bk, bA, bC, wd, wA, wC, sh, rl, lA, lC, st, tA, tC, ini, iA, iC, fin, fA, fC, xA, xn, xC, tz⟩, rfl, ⟨k0, hs, hnd, hrp, hsy, hbk, hwd, hrl, hst, hini, hfin, hx⟩, rfl, rfl, rfl⟩
theorem RowsAt.len {α : Type} {n : Nat} {cells : α → List Value} {w : World} {P : Nat → Prop} {A : Option Addr} {m c : Nat} {l : List α} (h : RowsAt n cells w P (.slice A m c) l) : l.length ≤ maxLen := by
  obtain ⟨A', c', e, h1, h2, _⟩ := h
  omega
theorem RowsAt.elem {α : Type} {n : Nat} {cells : α → List Value} {w : World} {P : Nat → Prop} {A : Option Addr} {m c : Nat} {l : List α} (h : RowsAt n cells w P (.slice A m c) l) (k : Nat) (x : α) (hx : l[k]? = some x) :
    ∃ b off, A = some ⟨b, off, none⟩ ∧ ∀ j u, (cells x)[j]? = some u → w.cell? ⟨b, off + k * n + j, none⟩ = some u := by
  obtain ⟨A', c', e, h1, h2, hr⟩ := h
  simp only [Value.slice.injEq] at e
  obtain ⟨rfl, _, rfl⟩ := e
  obtain ⟨b, off, h3, _, _, h4⟩ := hr k x hx
  exact ⟨b, off, h3, h4⟩
theorem RowsAt.elem1 {α : Type} {cells : α → List Value} {w : World} {P : Nat → Prop} {A : Option Addr} {m c : Nat} {l : List α} (h : RowsAt 1 cells w P (.slice A m c) l) (k : Nat) (x : α) (hx : l[k]? = some x) (u : Value) (hu : cells x = [u]) :
    ∃ b off, A = some ⟨b, off, none⟩ ∧ w.cell? ⟨b, off + k, none⟩ = some u := by
  obtain ⟨b, off, h3, h4⟩ := h.elem k x hx
  have := h4 0 u (by rw [hu]; rfl)
  exact ⟨b, off, h3, by simpa using this⟩
def SomeB (e : Ending) : Prop := ∃ b, e = .returned (.bool b)
set_option maxRecDepth 100000 in
set_option maxHeartbeats 4000000 in
theorem sized09_any (s : ByteArray) (hs : s.size ≤ maxLen) (w : World) : Calls Try.prog 54 #[.string s] w fun e w' => SomeB e ∧ w = w' := by
  unfold maxLen at hs
  go_enter Try.func54, Try.ntmps54
  go_wp2
  all_goals
    go_ret
    exact ⟨⟨_, rfl⟩, rfl⟩
end Go.Proofs.Ytlkelfaokbdddaa
