/-
  Layer 17: the program's state of threads and modules, in memory: a thing; its parts picked by their blocks' numbers.
  Conditions: none. (My own text.)
-/
import Derived.Test.YtpenejigebkkmaaTmb
import Derived.Test.YtpenejigebkkmaaSp5
namespace Go.Proofs.Ytpenejigebkkmaa
open Go.RowKit Spm
set_option linter.unusedVariables false
set_option linter.unusedSimpArgs false

/-! ### Maps, picked by their block's number -/
class PickM (g : Nat) (l : outParam (List Ent)) (c : outParam Nat) (Y : Res) (R : outParam Res) : Prop where
  pick : ∀ {w : World} {F : Nat → Prop}, Y w F → Star (Mp g l c) R w F
instance pickm_here {g : Nat} {l : List Ent} {c : Nat} {R : Res} : PickM g l c (Star (Mp g l c) R) R := ⟨fun h => h⟩
instance pickm_there {g : Nat} {l : List Ent} {c : Nat} {Y R Z : Res} [h : PickM g l c Y R] : PickM g l c (Star Z Y) (Star Z R) := ⟨fun hy => Star.swap (Star.under (fun _ => h.pick) hy)⟩
class UpdM (g : Nat) (l : outParam (List Ent)) (c : outParam Nat) (l' : List Ent) (c' : Nat) (Y : Res) (Y' : outParam Res) : Prop where
  old : ∀ {w : World} {F : Nat → Prop}, Y w F → F g ∧ w.heap[g]? = some (.map (l.map entM).toArray c)
  put : ∀ {w : World} {F : Nat → Prop}, Y w F → Y' (World.putO w g (.map (l'.map entM).toArray c')) F
instance updm_here {g : Nat} {l l' : List Ent} {c c' : Nat} {R : Res} [hR : Fr R] : UpdM g l c l' c' (Star (Mp g l c) R) (Star (Mp g l' c') R) where
  old := fun ⟨F1, F2, h1, h2, hd, g1, g2⟩ => ⟨g1 g h1.2, h1.1⟩
  put := fun ⟨F1, F2, h1, h2, hd, g1, g2⟩ => ⟨F1, F2, ⟨putO_at h1.1, h1.2⟩, hR.keep h2 (fun k hk _ => putO_other (fun e => hd g h1.2 (e ▸ hk))), hd, g1, g2⟩
instance updm_there {g : Nat} {l l' : List Ent} {c c' : Nat} {Y Y' Z : Res} [h : UpdM g l c l' c' Y Y'] [hZ : Fr Z] : UpdM g l c l' c' (Star Z Y) (Star Z Y') where
  old := fun ⟨F1, F2, h1, h2, hd, g1, g2⟩ => ⟨g2 g (h.old h2).1, (h.old h2).2⟩
  put := fun ⟨F1, F2, h1, h2, hd, g1, g2⟩ => ⟨F1, F2, hZ.keep h1 (fun k hk _ => putO_other (fun e => hd k hk (e ▸ (h.old h2).1))), h.put h2, hd, g1, g2⟩
section
variable {B : Nat} {w wr w' : World} {Y Y' R : Res} {l l' : List Ent} {c c' : Nat}
theorem Has.pickm (h : Has B w wr Y) (g : Nat) [hp : PickM g l c Y R] : Has B w wr (Star (Mp g l c) R) := h.imp fun _ => hp.pick
theorem Has.getm (h : Has B w wr Y) (g : Nat) [hp : PickM g l c Y R] : wr.heap[g]? = some (.map (l.map entM).toArray c) := (h.pickm g).mp
theorem Has.setm (h : Has B w wr Y) (g : Nat) (l' : List Ent) (c' : Nat) [hp : UpdM g l c l' c' Y Y'] : Has B w (World.putO wr g (.map (l'.map entM).toArray c')) Y' := by
  obtain ⟨F, h1, h2⟩ := h.own
  have hs : (World.putO wr g (.map (l'.map entM).toArray c')).heap.size = wr.heap.size := by simp [World.putO]
  exact ⟨⟨F, hp.put h1, h2⟩, h.bel.trans ((putO_keeps wr g _).below h.le (fun k e => by subst e; exact h2 _ (hp.old h1).1)), by rw [hs]; exact h.le⟩
end

/-! ### Things in a row -/
def All {α : Type} (f : α → Res) : List α → Res
  | [] => Emp
  | x :: l => Star (f x) (All f l)
instance fr_all {α : Type} (f : α → Res) [hf : ∀ x, Fr (f x)] : (l : List α) → Fr (All f l)
  | [] => fr_emp
  | x :: l => @fr_star (f x) (All f l) (hf x) (fr_all f l)
theorem All.out {α : Type} {f : α → Res} {x : α} {l2 : List α} {w : World} : ∀ {l1 : List α} {F : Nat → Prop}, All f (l1 ++ x :: l2) w F → Star (f x) (All f (l1 ++ l2)) w F
  | [], F, h => h
  | y :: l1, F, h => Star.swap (Star.under (fun _ => All.out (l1 := l1)) h)
theorem All.put {α : Type} {f : α → Res} {x : α} {l2 : List α} {w : World} : ∀ {l1 : List α} {F : Nat → Prop}, Star (f x) (All f (l1 ++ l2)) w F → All f (l1 ++ x :: l2) w F
  | [], F, h => h
  | y :: l1, F, h => Star.under (fun _ => All.put (l1 := l1)) (Star.swap h)

/-! ### The state -/
/-- A module; a block; their entries in the state's maps. -/
structure Mdl where
  gen : Int
  size : Int
  tm : List UInt8
  st : Bool
  bh : Int
structure MdE where
  k : Int
  x : Mdl
  v : Value
  b : Nat
structure Bk where
  md : Int
  gn : Int
  at_ : Int
  sz : Int
structure BkE where
  k : Int
  x : Bk
  b : Nat
structure GnE where
  k : Int
  n : Int
  b : Nat
structure ThE where
  k : Int
  tp : Int
  g : Nat
  bl : List BkE
  c : Nat
  b : Nat
def mdA (x : Mdl) (v : Value) : Array Value := #[.int .i64 x.gen, .int .i64 x.size, v, .bool x.st, .int .i64 x.bh]
def bkA (x : Bk) : Array Value := #[.int .i64 x.md, .int .i64 x.gn, .int .i64 x.at_, .int .i64 x.sz]
def thA (tp : Int) (g : Nat) : Array Value := #[.int .i64 tp, .map (some g)]
def MdE.ent (e : MdE) : Ent := (e.k, .agg (mdA e.x e.v), e.b)
def BkE.ent (e : BkE) : Ent := (e.k, .agg (bkA e.x), e.b)
def GnE.ent (e : GnE) : Ent := (e.k, .int .i64 e.n, e.b)
def ThE.ent (e : ThE) : Ent := (e.k, .agg (thA e.tp e.g), e.b)
structure Ts where
  ml : List MdE
  mc : Nat
  gl : List GnE
  gc : Nat
  tl : List ThE
  tc : Nat
  sd : Bool
  ar : Int
  gm : Nat
  gg : Nat
  gt : Nat
structure TsGood (t : Ts) : Prop where
  gdm : Good (t.ml.map MdE.ent) t.mc
  gdg : Good (t.gl.map GnE.ent) t.gc
  gdt : Good (t.tl.map ThE.ent) t.tc
  gdb : ∀ x : ThE, x ∈ t.tl → Good (x.bl.map BkE.ent) x.c
def Ts.arr (t : Ts) : Array Value := #[.map (some t.gm), .map (some t.gg), .map (some t.gt), .bool t.sd, .int .i64 t.ar]
def mdR (e : MdE) : Res := Bt e.v e.x.tm
def thR (t : ThE) : Res := Mp t.g (t.bl.map BkE.ent) t.c
instance fr_mdR (e : MdE) : Fr (mdR e) := inferInstanceAs (Fr (Bt e.v e.x.tm))
instance fr_thR (t : ThE) : Fr (thR t) := inferInstanceAs (Fr (Mp t.g (t.bl.map BkE.ent) t.c))
/-- The state in memory, and what is beside it. -/
abbrev Tl (s : Nat) (t : Ts) (Y : Res) : Res := Star (Cel s 66 t.arr) (Star (Mp t.gm (t.ml.map MdE.ent) t.mc) (Star (Mp t.gg (t.gl.map GnE.ent) t.gc) (Star (Mp t.gt (t.tl.map ThE.ent) t.tc) (Star (All mdR t.ml) (Star (All thR t.tl) Y)))))
def ts0 (gm gg gt : Nat) : Ts := ⟨[], 0, [], 0, [], 0, false, 0, gm, gg, gt⟩
theorem ts0_good (gm gg gt : Nat) : TsGood (ts0 gm gg gt) := ⟨Good.nil, Good.nil, Good.nil, fun x h => by simp [ts0] at h⟩

/-! ### New, Gen, up -/
theorem z_int : ∀ w : World, (zeroValue 3).run Try.prog w = .ok (.int .i64 0) w := fun w => by rw [Try.zeroValue3]
theorem z_mod : ∀ w : World, (zeroValue 68).run Try.prog w = .ok (.agg (mdA ⟨0, 0, [], false, 0⟩ (.slice none 0 0))) w := fun w => by rw [Try.zeroValue68]; rfl
theorem z_thr : ∀ w : World, (zeroValue 60).run Try.prog w = .ok (.agg #[.int .i64 0, .map none]) w := fun w => by rw [Try.zeroValue60]
theorem z_blk : ∀ w : World, (zeroValue 44).run Try.prog w = .ok (.agg (bkA ⟨0, 0, 0, 0⟩)) w := fun w => by rw [Try.zeroValue44]; rfl
theorem wpList_mmake {P : Program} {ops : Array Oper} {rest : List Oper} {o : Oper} {a : Go.Act} {Q : Exit → Go.Act → World → Prop} {w : World} (hgd : o.guard = none) (T : TypeId) (ho : o.op = .makeMap T none) (h : wpList P ops Q rest (a.put o.dst (.map (some w.heap.size))) (w.alloc (.map #[] 0))) : wpList P ops Q (o :: rest) a w :=
  wpList_ran hgd (by
    unfold execOp
    rw [ho]
    simp only [Option.map_none, Sem.run_bind, run_makeMap, Result.andThen_ok]
    rfl) h
theorem star_emp {X : Res} {w : World} {F : Nat → Prop} (h : X w F) : Star Emp X w F := ⟨fun _ => False, F, trivial, h, fun _ h => h.elim, fun _ h => h.elim, fun _ h => h⟩
instance (priority := high) sub_all_nil {α : Type} {f : α → Res} {X Y : Res} [h : Sub X Y] : Sub (Star (All f []) X) Y := ⟨fun hy => star_emp (h.sub hy)⟩
set_option maxRecDepth 100000 in
set_option maxHeartbeats 4000000 in
theorem tnew_any {B : Nat} {w wr : World} {Y : Res} [hY : Fr Y] (h : Has B w wr Y) : Calls Try.prog 23 #[] wr fun e w' => ∃ s gm gg gt, e = .returned (.pointer (some ⟨s, 0, none⟩)) ∧ Has B w w' (Tl s (ts0 gm gg gt) Y) := by
  obtain ⟨W1, hW1⟩ : ∃ W1, wr.alloc (.map #[] 0) = W1 := ⟨_, rfl⟩
  obtain ⟨W2, hW2⟩ : ∃ W2, W1.alloc (.map #[] 0) = W2 := ⟨_, rfl⟩
  obtain ⟨W3, hW3⟩ : ∃ W3, W2.alloc (.map #[] 0) = W3 := ⟨_, rfl⟩
  have M1 := h.newmp
  rw [hW1] at M1
  have M2 := M1.newmp
  rw [hW2] at M2
  have M3 := M2.newmp
  rw [hW3] at M3
  have M4 := M3.newcel 66 #[.map (some wr.heap.size), .map (some W1.heap.size), .map (some W2.heap.size), .bool false, .int .i64 0]
  have HF : Hid (∃ s gm gg gt, (Ending.returned (.pointer (some ⟨W3.heap.size, 0, none⟩)) = .returned (.pointer (some ⟨s, 0, none⟩))) ∧ Has B w (W3.alloc (.cells #[.map (some wr.heap.size), .map (some W1.heap.size), .map (some W2.heap.size), .bool false, .int .i64 0] 66)) (Tl s (ts0 gm gg gt) Y)) := Lib.hid ⟨W3.heap.size, wr.heap.size, W1.heap.size, W2.heap.size, rfl,
    (M4.norm (Star (Cel W3.heap.size 66 #[.map (some wr.heap.size), .map (some W1.heap.size), .map (some W2.heap.size), .bool false, .int .i64 0]) (Star (Mp wr.heap.size [] 0) (Star (Mp W1.heap.size [] 0) (Star (Mp W2.heap.size [] 0) (Star (All mdR []) (Star (All thR []) Y)))))))⟩
  have e1 : W1.heap.size = wr.heap.size + 1 := by rw [← hW1]; simp
  have e2 : W2.heap.size = wr.heap.size + 1 + 1 := by rw [← hW2, ← e1]; simp
  have e3 : W3.heap.size = wr.heap.size + 1 + 1 + 1 := by rw [← hW3, ← e2]; simp
  rw [e3, e2, e1] at HF
  clear M1 M2 M3 M4 h e1 e2 e3
  subst hW1 hW2 hW3
  go_enter Try.func23, Try.ntmps23
  go_wp2_with (first | (refine wpList_mmake rfl _ rfl ?_))
  go_ret
  exact HF.out
end Go.Proofs.Ytpenejigebkkmaa
