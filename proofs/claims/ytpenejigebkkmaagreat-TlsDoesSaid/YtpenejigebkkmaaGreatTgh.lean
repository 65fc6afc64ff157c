/-
  Layer 17, plain: an act by the program and by the document side by side; the document's invariant; a copy of the state.
  Layer 17: a copy of the program's state: maps.Clone; the templates go with the copy.
  Conditions: none. (My own text.)
-/
import Derived.Test.YtpenejigebkkmaaGreatTrk
import Derived.Test.YtpenejigebkkmaaGreatTge
import Derived.Test.YtpenejigebkkmaaGreatTgd
import Derived.Test.YtpenejigebkkmaaGreatTgi
import Derived.Test.YtpenejigebkkmaaGreatShp
namespace Go.Proofs.YtpenejigebkkmaaGreat
open Go.RowKit Spm
set_option linter.unusedVariables false
set_option linter.unusedSimpArgs false

/-- The document's invariant, off the program's. -/
theorem SInv.bl_len {t : Ts} {L : List Rg} (h : SInv t L) {x : ThE} (hx : x ∈ t.tl) : x.bl.length ≤ 64 := by
  have h1 := nodup_len 64 (x.bl.map BkE.k) (h.inv.good.kb hx) (fun k hk => by
    obtain ⟨b, hb, rfl⟩ := List.mem_map.1 hk
    obtain ⟨m, h2, -⟩ := h.bk x hx b hb
    obtain ⟨h3, h4⟩ := efind_mem h2
    have := h.num.lo m h3
    have := h.num.hi m h3
    omega)
  rwa [List.length_map] at h1
theorem Sim.dinv {t : Ts} {L : List Rg} {d : Dt} (h : Sim t d) (hs : SInv t L) : DInv d := by
  have hth : ∀ y ∈ d.tl, ∃ x ∈ t.tl, x.k = y.id ∧ y.bl = x.bl.map (·.x) := fun y hy => by
    have hf := efind_of_mem h.ids hy
    rcases h.th (id := y.id) with ⟨-, e2⟩ | ⟨x, y', e1, e2, -, h2⟩
    · rw [e2] at hf; cases hf
    · rw [e2] at hf
      obtain rfl := Option.some.inj hf
      exact ⟨x, (efind_mem e1).1, (efind_mem e1).2, h2⟩
  refine ⟨by rw [h.ar]; exact hs.a0, by rw [h.ar]; exact hs.a1, h.gll, ?_, ?_, fun y hy => ?_, fun x hx => ?_⟩
  · rw [h.mods, List.length_map]
    exact hs.num.len
  · have hlen := nodup_sub_len (d.tl.map DT.id) ((List.range 16).map fun i : Nat => (i : Int)) h.ids (fun k hk => by
      obtain ⟨y, hy, rfl⟩ := List.mem_map.1 hk
      obtain ⟨x, hx, hk, -⟩ := hth y hy
      have := hs.th x hx
      exact List.mem_map.2 ⟨y.id.toNat, List.mem_range.2 (by omega), by omega⟩)
    rwa [List.length_map, List.length_map, List.length_range] at hlen
  · obtain ⟨x, hx, -, hb⟩ := hth y hy
    rw [hb, List.length_map]
    have := hs.bl_len hx
    omega
  · rw [h.mods] at hx
    obtain ⟨m, hm, rfl⟩ := List.mem_map.1 hx
    have := hs.inv.ok m hm
    show m.x.tm.length ≤ 4096
    omega
/-- How often a number was given is a number. -/
def GI (t : Ts) : Prop := ∀ k, I64 (gget t.gl k)
theorem GI.new (gm gg gt : Nat) : GI (ts0 gm gg gt) := fun k => by
  show I64 (gget [] k)
  have : gget [] k = 0 := rfl
  rw [this]
  unfold I64
  omega
theorem GI.gset {t : Ts} (h : GI t) (n v : Int) : GI (gsetT t n (wrap64 v)) := fun k => by
  show I64 (gget (gsetL t n (wrap64 v)) k)
  rw [gget_gset]
  split
  · exact wrap64_I64' _
  · exact h k
theorem GI.reg {t : Ts} {tm : List UInt8} {size : Int} {st : Bool} {n r : Int} {t' : Ts} (h : GI t) (hp : RegP t tm size st n r t') : GI t' := by
  unfold RegP at hp
  split at hp
  · obtain ⟨-, -, rfl⟩ := hp; exact h
  split at hp
  · obtain ⟨-, -, rfl⟩ := hp; exact h
  obtain ⟨m, hm, hp⟩ := hp
  split at hp
  · obtain ⟨-, -, rfl⟩ := hp; exact h
  split at hp
  · obtain ⟨-, -, rfl⟩ := hp
    exact (h.gset _ _).gset _ _
  obtain ⟨-, -, v, rfl⟩ := hp
  exact fun k => h.gset m (gget t.gl m + 1) k
theorem GI.of_gl {t t' : Ts} (h : GI t) (e : t'.gl = t.gl) : GI t' := fun k => by rw [e]; exact h k
theorem GI.does {x : TAct} {t : Ts} {L : List Rg} {n r : Int} {t' : Ts} {L' : List Rg} (h : GI t) (hp : DoesT x t L n r t' L') : GI t' := by
  unfold DoesT at hp
  split at hp
  · exact h.reg hp.1
  split at hp
  · have hp := hp.2
    unfold RelP at hp
    split at hp
    · exact h.of_gl (by rw [hp.2.1])
    · split at hp
      · exact h.of_gl (by rw [hp.2.1])
      · exact h.of_gl (by rw [hp.2.1])
  split at hp
  · unfold StartP at hp
    split at hp
    · exact h.of_gl (by rw [hp.2.2.1])
    · split at hp
      · obtain ⟨-, -, ⟨g, rfl⟩, -⟩ := hp
        exact h
      · exact h.of_gl (by rw [hp.2.2.1])
  split at hp
  · have hp := hp.2
    unfold ExitP at hp
    split at hp
    · exact h.of_gl (by rw [hp.2.1])
    · exact h.of_gl (by rw [hp.2.1])
  split at hp
  · obtain ⟨L1, hp, -⟩ := hp
    unfold AddrP at hp
    split at hp
    · exact h.of_gl (by rw [hp.2.2.1])
    split at hp
    · exact h.of_gl (by rw [hp.2.2.1])
    split at hp
    · exact h.of_gl (by rw [hp.2.2.1])
    split at hp
    · exact h.of_gl (by rw [hp.2.2.1])
    unfold AddrBP at hp
    split at hp
    · exact h.of_gl (by rw [hp.2.2.1])
    split at hp
    · exact h.of_gl (by rw [hp.2.2.1])
    · exact h.of_gl (by rw [hp.2.2.1])
  · exact h.of_gl (by rw [hp.2.2.1])
/-- THE PLAIN LAW of a step. -/
theorem Sim.does {x : TAct} {t : Ts} {L : List Rg} {d d' : Dt} {n r n2 r2 : Int} {t' : Ts} {L' L2 : List Rg} (h : Sim t d) (hs : SInv t L) (hg : GI t) (hp : DoesT x t L n r t' L') (hq : ModT x d L n2 r2 d' L2) : n2 = n ∧ r2 = r ∧ L2 = L' ∧ Sim t' d' := by
  unfold DoesT at hp
  unfold ModT at hq
  by_cases h1 : x.d = 1
  · rw [if_pos h1] at hp hq
    obtain ⟨e1, e2, e3⟩ := h.reg hs hg hp.1 hq.1
    exact ⟨e1, e2, hq.2.trans hp.2.symm, e3⟩
  rw [if_neg h1] at hp hq
  by_cases h2 : x.d = 2
  · rw [if_pos h2] at hp hq
    obtain ⟨e1, e2, e3⟩ := h.rel hs hp.2 hq.2
    exact ⟨hq.1.trans hp.1.symm, e1, e2, e3⟩
  rw [if_neg h2] at hp hq
  by_cases h3 : x.d = 3
  · rw [if_pos h3] at hp hq
    exact h.start hs hp hq
  rw [if_neg h3] at hp hq
  by_cases h4 : x.d = 4
  · rw [if_pos h4] at hp hq
    obtain ⟨e1, e2, e3⟩ := h.exit hs hp.2 hq.2
    exact ⟨hq.1.trans hp.1.symm, e1, e2, e3⟩
  rw [if_neg h4] at hp hq
  by_cases h5 : x.d = 5 ∨ x.d = 6
  · rw [if_pos h5] at hp hq
    obtain ⟨La, hp, rfl⟩ := hp
    obtain ⟨Lb, hq, rfl⟩ := hq
    obtain ⟨rfl, rfl, rfl, e4⟩ := h.addr hs hp hq
    exact ⟨rfl, rfl, rfl, e4⟩
  · rw [if_neg h5] at hp hq
    obtain ⟨rfl, rfl, rfl, rfl⟩ := hp
    obtain ⟨rfl, rfl, rfl, rfl⟩ := hq
    exact ⟨rfl, rfl, rfl, h⟩
theorem Sim.stat {t : Ts} {d : Dt} (h : Sim t d) (n : Int) : (dStat d.ml n).1 = bhS t n ∧ (dStat d.ml n).2 = stS t n := by
  have hfd : ∀ l : List DM, l.find? (fun x => decide (x.n = n)) = efind DM.n l n := fun l => by
    induction l with
    | nil => rfl
    | cons x l ih =>
      rw [List.find?_cons]
      unfold efind
      by_cases hx : x.n = n
      · rw [if_pos hx.symm]
        simp [hx]
      · rw [if_neg (fun e => hx e.symm), ← ih]
        simp [hx]
  unfold dStat bhS stS
  rw [hfd, h.fm]
  cases hf : efind MdE.k t.ml n with
  | none => exact ⟨rfl, rfl⟩
  | some m =>
    have hm := (efind_mem hf).1
    show (if (cvM m).st = true then ((cvM m).bh, true) else (0, false)).1 = m.x.bh ∧ (if (cvM m).st = true then ((cvM m).bh, true) else (0, false)).2 = m.x.st
    by_cases hst : m.x.st = true
    · rw [if_pos (show (cvM m).st = true from hst)]
      exact ⟨rfl, hst.symm⟩
    · rw [if_neg (show ¬ (cvM m).st = true from hst)]
      have hst' : m.x.st = false := by simpa using hst
      exact ⟨(h.bh0 m hm hst').symm, hst'.symm⟩

/-! ### A copy -/
def cpK (x : ThE) : Int × Int × List BkE × Nat := (x.k, x.tp, x.bl, x.c)
structure CpT (t t2 : Ts) : Prop where
  ml : t2.ml = t.ml
  mc : t2.mc = t.mc
  gl : t2.gl = t.gl
  gc : t2.gc = t.gc
  sd : t2.sd = t.sd
  ar : t2.ar = t.ar
  tl : (t2.tl.map cpK).Perm (t.tl.map cpK)
  gdt : Good (t2.tl.map ThE.ent) t2.tc
theorem CpT.mem {t t2 : Ts} (h : CpT t t2) {x : ThE} (hx : x ∈ t2.tl) : ∃ y ∈ t.tl, y.k = x.k ∧ y.tp = x.tp ∧ y.bl = x.bl ∧ y.c = x.c := by
  obtain ⟨y, hy, he⟩ := List.mem_map.1 (h.tl.mem_iff.1 (List.mem_map_of_mem (f := cpK) hx))
  unfold cpK at he
  simp only [Prod.mk.injEq] at he
  exact ⟨y, hy, he.1, he.2.1, he.2.2.1, he.2.2.2⟩
theorem CpT.mem2 {t t2 : Ts} (h : CpT t t2) {y : ThE} (hy : y ∈ t.tl) : ∃ x ∈ t2.tl, y.k = x.k ∧ y.tp = x.tp ∧ y.bl = x.bl ∧ y.c = x.c := by
  obtain ⟨x, hx, he⟩ := List.mem_map.1 (h.tl.mem_iff.2 (List.mem_map_of_mem (f := cpK) hy))
  unfold cpK at he
  simp only [Prod.mk.injEq] at he
  exact ⟨x, hx, he.1.symm, he.2.1.symm, he.2.2.1.symm, he.2.2.2.symm⟩
theorem CpT.sinv {t t2 : Ts} {L : List Rg} (h : CpT t t2) (hs : SInv t L) : SInv t2 L := by
  refine ⟨⟨⟨by rw [h.ml, h.mc]; exact hs.inv.good.gdm, by rw [h.gl, h.gc]; exact hs.inv.good.gdg, h.gdt, fun x hx => ?_⟩, by rw [h.ml]; exact hs.inv.ok, by rw [h.ml]; exact hs.inv.key⟩, hs.ok, ?_, fun x hx b hb => ?_, fun e => ?_, fun x hx => ?_, by rw [h.ar]; exact hs.a0, by rw [h.ar]; exact hs.a1, by rw [h.ml]; exact hs.k1, by rw [h.ml, h.ar]; exact hs.sta, by rw [h.ml]; exact hs.apart⟩
  · obtain ⟨y, hy, -, -, h3, h4⟩ := h.mem hx
    rw [← h3, ← h4]
    exact hs.inv.good.gdb y hy
  · refine hs.shp.trans ?_
    rw [h.ar]
    have e : ∀ l : List ThE, pcs t.ar l = (l.map cpK).flatMap fun q => (q.2.1, up (max 8 t.ar), 3) :: q.2.2.1.map bkP := fun l => by
      unfold pcs
      rw [List.flatMap_map]
      rfl
    rw [e, e]
    exact (h.tl.flatMap_right _).symm
  · obtain ⟨y, hy, -, -, h3, -⟩ := h.mem hx
    rw [h.ml]
    exact hs.bk y hy b (by rw [h3]; exact hb)
  · rw [h.sd] at e
    have h1 := hs.sd e
    have h2 := h.tl.length_eq
    rw [h1, List.length_map] at h2
    exact List.eq_nil_of_length_eq_zero h2
  · obtain ⟨y, hy, h1, -⟩ := h.mem hx
    rw [← h1]
    exact hs.th y hy
theorem CpT.sim {t t2 : Ts} {L : List Rg} {d : Dt} (h : CpT t t2) (hs : SInv t L) (hd : Sim t d) : Sim t2 d := by
  refine ⟨by rw [h.ml]; exact hd.mods, fun id => ?_, hd.ids, fun n => by rw [h.gl]; exact hd.gens n, by rw [h.sd]; exact hd.sd, by rw [h.ar]; exact hd.ar, hd.gll, by rw [h.ml]; exact hd.bh0⟩
  have hs2 := h.sinv hs
  cases hf : efind ThE.k t2.tl id with
  | none =>
    rcases hd.th (id := id) with ⟨-, e2⟩ | ⟨y, -, e1, -, -, -⟩
    · rw [e2]; trivial
    · obtain ⟨h1, h2⟩ := efind_mem e1
      obtain ⟨x, hx, hk, -⟩ := h.mem2 h1
      exact absurd (hk.symm.trans h2) (efind_none_ne hf x hx)
  | some x =>
    obtain ⟨h1, h2⟩ := efind_mem hf
    obtain ⟨y, hy, h3, h4, h5, -⟩ := h.mem h1
    have hfy := efind_of_mem hs.inv.good.kt hy
    rw [h3, h2] at hfy
    rcases hd.th (id := id) with ⟨e1, -⟩ | ⟨y', z, e1, e2, e3, e4⟩
    · rw [e1] at hfy; cases hfy
    · rw [e1] at hfy
      obtain rfl := Option.some.inj hfy
      rw [e2]
      exact ⟨by rw [e3, h4], by rw [e4, h5]⟩
theorem CpT.gi {t t2 : Ts} (h : CpT t t2) (hg : GI t) : GI t2 := hg.of_gl h.gl
end Go.Proofs.YtpenejigebkkmaaGreat

namespace Go.Proofs.YtpenejigebkkmaaGreat
open Go.RowKit Spm
set_option linter.unusedVariables false
set_option linter.unusedSimpArgs false

theorem Has.newmpL {B : Nat} {w wr : World} {Y : Res} [Fr Y] (h : Has B w wr Y) (l : List Ent) (c : Nat) : Has B w (wr.alloc (.map (l.map entM).toArray c)) (Star (Mp wr.heap.size l c) Y) :=
  h.add ((Below.refl _ _).alloc (Nat.le_refl _) _) ⟨heap_alloc_new wr _, Nat.le_refl _⟩
theorem cloneM_any {B : Nat} {w W : World} {Y : Res} [hY : Fr Y] {l : List Ent} {c : Nat} (h : Has B w W Y) (g : Nat) (hg : W.heap[g]? = some (.map (l.map entM).toArray c)) : Calls Tryz.prog 18 #[.map (some g)] W fun e w' => ∃ g2, e = .returned (.map (some g2)) ∧ Has B w w' (Star (Mp g2 l c) Y) :=
  Calls.mono (show Calls Tryz.prog 18 #[.map (some g)] W _ from Go.Proofs.AnyW.maps_Clone Tryz.cloneM g _ c W hg) (by
    rintro e w' ⟨rfl, rfl⟩
    exact ⟨_, rfl, h.newmpL l c⟩)
theorem cloneG_any {B : Nat} {w W : World} {Y : Res} [hY : Fr Y] {l : List Ent} {c : Nat} (h : Has B w W Y) (g : Nat) (hg : W.heap[g]? = some (.map (l.map entM).toArray c)) : Calls Tryz.prog 19 #[.map (some g)] W fun e w' => ∃ g2, e = .returned (.map (some g2)) ∧ Has B w w' (Star (Mp g2 l c) Y) :=
  Calls.mono (show Calls Tryz.prog 19 #[.map (some g)] W _ from Go.Proofs.AnyW.maps_Clone Tryz.cloneG g _ c W hg) (by
    rintro e w' ⟨rfl, rfl⟩
    exact ⟨_, rfl, h.newmpL l c⟩)
theorem cloneK_any {B : Nat} {w W : World} {Y : Res} [hY : Fr Y] {l : List Ent} {c : Nat} (h : Has B w W Y) (g : Nat) (hg : W.heap[g]? = some (.map (l.map entM).toArray c)) : Calls Tryz.prog 20 #[.map (some g)] W fun e w' => ∃ g2, e = .returned (.map (some g2)) ∧ Has B w w' (Star (Mp g2 l c) Y) :=
  Calls.mono (show Calls Tryz.prog 20 #[.map (some g)] W _ from Go.Proofs.AnyW.maps_Clone Tryz.cloneK g _ c W hg) (by
    rintro e w' ⟨rfl, rfl⟩
    exact ⟨_, rfl, h.newmpL l c⟩)
theorem All.each {α : Type} {f : α → Res} {w : World} : ∀ {l : List α} {F : Nat → Prop}, All f l w F → ∀ x ∈ l, ∃ F', f x w F'
  | [], F, h, x, hx => by simp at hx
  | y :: l, F, h, x, hx => by
    obtain ⟨F1, F2, h1, h2, -⟩ := h
    rcases List.mem_cons.1 hx with rfl | hx
    · exact ⟨F1, h1⟩
    · exact All.each h2 x hx
theorem Has.addW {B : Nat} {w wr : World} {X Y : Res} {l : List MdE} (h : Has B w wr X) (h2 : Has B w wr (Star (All mdR l) Y)) : Has B w wr (Star (All mdW l) X) := by
  have hv : ∀ e ∈ l, ∃ A n c, e.v = .slice A n c := fun e he => by
    obtain ⟨F, ⟨F1, F2, h3, -⟩, -⟩ := h2.own
    obtain ⟨F', h4⟩ := All.each h3 e he
    obtain ⟨A, c, h5, -⟩ := h4.1.src
    exact ⟨A, _, c, h5⟩
  exact h.imp fun F hx => ⟨fun _ => False, F, all_mdW hv, hx, fun _ h => h.elim, fun _ h => h.elim, fun _ h => h⟩
theorem Tl.copied {B : Nat} {w wr : World} {Y : Res} [hY : Fr Y] {c s : Nat} {t t2 : Ts} (h : Has B w wr (Star (Cel c 56 t2.arr) (Star (Mp t2.gm (t.ml.map MdE.ent) t.mc) (Star (Mp t2.gg (t.gl.map GnE.ent) t.gc) (Star (Mp t2.gt (t2.tl.map ThE.ent) t2.tc) (Star (All thR t2.tl) (Tl s t Y))))))) (hc : CpT t t2) : Has B w wr (Tl c t2 (Tw s t Y)) := by
  obtain ⟨ml, mc, gl, gc, tl, tc, sd, ar, gm, gg, gt⟩ := t2
  obtain ⟨e1, e2, e3, e4, -, -, -, -⟩ := hc
  simp only at e1 e2 e3 e4
  subst e1 e2 e3 e4
  have h2 := h.norm (Star (All mdR t.ml) (Star (Cel c 56 (Ts.arr ⟨t.ml, t.mc, t.gl, t.gc, tl, tc, sd, ar, gm, gg, gt⟩)) (Star (Mp gm (t.ml.map MdE.ent) t.mc) (Star (Mp gg (t.gl.map GnE.ent) t.gc) (Star (Mp gt (tl.map ThE.ent) tc) (Star (All thR tl) (Star (Cel s 56 t.arr) (Star (Mp t.gm (t.ml.map MdE.ent) t.mc) (Star (Mp t.gg (t.gl.map GnE.ent) t.gc) (Star (Mp t.gt (t.tl.map ThE.ent) t.tc) (Star (All thR t.tl) Y)))))))))))
  have h3 := h2.addW h2
  exact h3.norm (Star (Cel c 56 (Ts.arr ⟨t.ml, t.mc, t.gl, t.gc, tl, tc, sd, ar, gm, gg, gt⟩)) (Star (Mp gm (t.ml.map MdE.ent) t.mc) (Star (Mp gg (t.gl.map GnE.ent) t.gc) (Star (Mp gt (tl.map ThE.ent) tc) (Star (All mdR t.ml) (Star (All thR tl) (Star (Cel s 56 t.arr) (Star (Mp t.gm (t.ml.map MdE.ent) t.mc) (Star (Mp t.gg (t.gl.map GnE.ent) t.gc) (Star (Mp t.gt (t.tl.map ThE.ent) t.tc) (Star (All mdW t.ml) (Star (All thR t.tl) Y))))))))))))
theorem cp_new {tl2 l tl : List ThE} (hp : ((tl2.map cpK) ++ l.map cpK).Perm (tl.map cpK)) (hn : (tl.map ThE.k).Nodup) {y : ThE} (hy : y ∈ l) : efind ThE.k tl2 y.k = none := by
  have h1 := hp.map (fun q : Int × Int × List BkE × Nat => q.1)
  rw [List.map_append, List.map_map, List.map_map, List.map_map] at h1
  have h2 := h1.nodup_iff.2 hn
  refine efind_none_of fun z hz e => ?_
  exact (List.nodup_append.1 h2).2.2 _ (List.mem_map_of_mem hz) _ (List.mem_map_of_mem hy) e
theorem cp_step {tl2 l l' tl : List ThE} {y z : ThE} (hp : ((tl2.map cpK) ++ l.map cpK).Perm (tl.map cpK)) (hl : l.Perm (y :: l')) (hz : cpK z = cpK y) : (((tl2 ++ [z]).map cpK) ++ l'.map cpK).Perm (tl.map cpK) := by
  refine List.Perm.trans ?_ hp
  rw [List.map_append, List.append_assoc, List.map_cons, List.map_nil, hz]
  exact ((hl.map cpK).symm.append_left _)
theorem cp_good {tl2 : List ThE} {tc2 : Nat} (hg : Good (tl2.map ThE.ent) tc2) {k tp : Int} {g c : Nat} {bl : List BkE} (hf : efind ThE.k tl2 k = none) : mset (tl2.map ThE.ent) k (.agg (thA tp g)) tc2 = (tl2 ++ [(⟨k, tp, g, bl, c, tc2⟩ : ThE)]).map ThE.ent ∧ mclk (tl2.map ThE.ent) k tc2 = tc2 + 1 ∧ Good ((tl2 ++ [(⟨k, tp, g, bl, c, tc2⟩ : ThE)]).map ThE.ent) (tc2 + 1) := by
  have h := hg.set k (.agg (thA tp g))
  have e1 := mset_eset (ent := ThE.ent) (key := ThE.k) (st := ThE.b) (fun _ => rfl) (fun _ => rfl) (k := k) (v := .agg (thA tp g)) (mk := fun b => (⟨k, tp, g, bl, c, b⟩ : ThE)) (fun _ => rfl) tc2 tl2
  rw [eset_new hf] at e1
  have e2 := mclk_new (ent := ThE.ent) (key := ThE.k) (fun _ => rfl) (c := tc2) hf
  rw [e1, e2] at h
  exact ⟨e1, e2, h⟩
def CopyE (s : Nat) (t : Ts) (Y : Res) (B : Nat) (w : World) (e : Ending) (w' : World) : Prop := ∃ c t2, e = .returned (.pointer (some ⟨c, 0, none⟩)) ∧ CpT t t2 ∧ Has B w w' (Tl c t2 (Tw s t Y))
attribute [local irreducible] wpList
set_option maxRecDepth 100000 in
set_option maxHeartbeats 8000000 in
theorem tcopy_any {B : Nat} {w wr : World} {Y : Res} [hY : Fr Y] {s : Nat} {t : Ts} (h : Has B w wr (Tl s t Y)) (hg : TsGood t) : Calls Tryz.prog 7 #[.pointer (some ⟨s, 0, none⟩)] wr (CopyE s t Y B w) := by
  have M0 := Lib.hid h
  have HG := Lib.hid hg
  clear h hg
  go_enter Tryz.func7, Tryz.ntmps7
  go_upto_region 1 with fail
  have Nd := Lib.hid (M0.out.stay ((Below.refl _ wr).drew))
  clear M0
  have SS : Hid ((fun X : World => Blk X s 56 t.arr) wr.drew) := Lib.hid (Nd.out.getc s)
  have HC0 : Hid (∀ X : World, Blk X s 56 t.arr → X.cell? ⟨s, 0, none⟩ = some (.map (some t.gm))) := Lib.hid (fun X h => by rw [h.cell]; rfl)
  have HC1 : Hid (∀ X : World, Blk X s 56 t.arr → X.cell? ⟨s, 1, none⟩ = some (.map (some t.gg))) := Lib.hid (fun X h => by rw [h.cell]; rfl)
  have HC3 : Hid (∀ X : World, Blk X s 56 t.arr → X.cell? ⟨s, 3, none⟩ = some (.bool t.sd)) := Lib.hid (fun X h => by rw [h.cell]; rfl)
  have HC4 : Hid (∀ X : World, Blk X s 56 t.arr → X.cell? ⟨s, 4, none⟩ = some (.int .i64 t.ar)) := Lib.hid (fun X h => by rw [h.cell]; rfl)
  refine wp_region_noPanic ?_
  refine wp_region_held_drew (S := fun X : World => Blk X s 56 t.arr) (by kernel_rfl) SS.out ?_
  clear SS
  intro hS
  refine takeR (i := 0) (v := .pointer (some ⟨s, 0, none⟩)) 6 rfl (by kernel_rfl) (by kernel_rfl) (by kernel_rfl) (by kernel_rfl) (fun _ _ _ h => h) (yields_pure (by kernel_rfl) (fun w => by kernel_rfl)) hS ?_
  refine takeR (i := 1) (v := .pointer (some ⟨s, 0, none⟩)) 7 rfl (by kernel_rfl) (by kernel_rfl) (by kernel_rfl) (by kernel_rfl) (fun _ _ _ h => h) (yields_pure (by kernel_rfl) (fun w => by kernel_rfl)) hS ?_
  refine takeR (i := 2) (v := .pointer (some ⟨s, 0, none⟩)) 8 rfl (by kernel_rfl) (by kernel_rfl) (by kernel_rfl) (by kernel_rfl) (fun _ _ _ h => h) (yields_pure (by kernel_rfl) (fun w => by kernel_rfl)) hS ?_
  refine takeR (i := 3) 9 rfl (by kernel_rfl) (by kernel_rfl) (by kernel_rfl) (by kernel_rfl) (fun _ _ _ h => h) (yields_load_cell (by kernel_rfl) 52 _ rfl s 0 (by kernel_rfl) (.map (some t.gm)) (fun X h => HC0.out X h) _ Tryz.underlying52 rfl) hS ?_
  refine takeR (i := 5) (v := .pointer (some ⟨s, 0, none⟩)) 11 rfl (by kernel_rfl) (by kernel_rfl) (by kernel_rfl) (by kernel_rfl) (fun _ _ _ h => h) (yields_pure (by kernel_rfl) (fun w => by kernel_rfl)) hS ?_
  refine takeR (i := 6) (v := .pointer (some ⟨s, 0, none⟩)) 12 rfl (by kernel_rfl) (by kernel_rfl) (by kernel_rfl) (by kernel_rfl) (fun _ _ _ h => h) (yields_pure (by kernel_rfl) (fun w => by kernel_rfl)) hS ?_
  refine takeR (i := 7) (v := .pointer (some ⟨s, 1, none⟩)) 13 rfl (by kernel_rfl) (by kernel_rfl) (by kernel_rfl) (by kernel_rfl) (fun _ _ _ h => h) (yields_pure (by kernel_rfl) (fun w => by kernel_rfl)) hS ?_
  refine takeR (i := 8) 14 rfl (by kernel_rfl) (by kernel_rfl) (by kernel_rfl) (by kernel_rfl) (fun _ _ _ h => h) (yields_load_cell (by kernel_rfl) 53 _ rfl s 1 (by kernel_rfl) (.map (some t.gg)) (fun X h => HC1.out X h) _ Tryz.underlying53 rfl) hS ?_
  refine takeR (i := 11) (v := .pointer (some ⟨s, 0, none⟩)) 17 rfl (by kernel_rfl) (by kernel_rfl) (by kernel_rfl) (by kernel_rfl) (fun _ _ _ h => h) (yields_pure (by kernel_rfl) (fun w => by kernel_rfl)) hS ?_
  refine takeR (i := 12) (v := .pointer (some ⟨s, 0, none⟩)) 18 rfl (by kernel_rfl) (by kernel_rfl) (by kernel_rfl) (by kernel_rfl) (fun _ _ _ h => h) (yields_pure (by kernel_rfl) (fun w => by kernel_rfl)) hS ?_
  refine takeR (i := 13) (v := .pointer (some ⟨s, 3, none⟩)) 19 rfl (by kernel_rfl) (by kernel_rfl) (by kernel_rfl) (by kernel_rfl) (fun _ _ _ h => h) (yields_pure (by kernel_rfl) (fun w => by kernel_rfl)) hS ?_
  refine takeR (i := 14) 20 rfl (by kernel_rfl) (by kernel_rfl) (by kernel_rfl) (by kernel_rfl) (fun _ _ _ h => h) (yields_load_cell (by kernel_rfl) 4 _ rfl s 3 (by kernel_rfl) (.bool t.sd) (fun X h => HC3.out X h) _ Tryz.underlying4 rfl) hS ?_
  refine takeR (i := 15) (v := .pointer (some ⟨s, 0, none⟩)) 21 rfl (by kernel_rfl) (by kernel_rfl) (by kernel_rfl) (by kernel_rfl) (fun _ _ _ h => h) (yields_pure (by kernel_rfl) (fun w => by kernel_rfl)) hS ?_
  refine takeR (i := 16) (v := .pointer (some ⟨s, 0, none⟩)) 22 rfl (by kernel_rfl) (by kernel_rfl) (by kernel_rfl) (by kernel_rfl) (fun _ _ _ h => h) (yields_pure (by kernel_rfl) (fun w => by kernel_rfl)) hS ?_
  refine takeR (i := 17) (v := .pointer (some ⟨s, 4, none⟩)) 23 rfl (by kernel_rfl) (by kernel_rfl) (by kernel_rfl) (by kernel_rfl) (fun _ _ _ h => h) (yields_pure (by kernel_rfl) (fun w => by kernel_rfl)) hS ?_
  refine takeR (i := 18) 24 rfl (by kernel_rfl) (by kernel_rfl) (by kernel_rfl) (by kernel_rfl) (fun _ _ _ h => h) (yields_load_cell (by kernel_rfl) 3 _ rfl s 4 (by kernel_rfl) (.int .i64 t.ar) (fun X h => HC4.out X h) _ Tryz.underlying3 rfl) hS ?_
  clear HC0 HC1 HC3 HC4
  obtain ⟨XN0, hX⟩ : ∃ XN0, wr.drew = XN0 := ⟨_, rfl⟩
  rw [hX] at Nd hS ⊢
  clear hX
  have N0 := Nd
  clear Nd hS
  refine wpAnyH_all (rs := [4, 10]) (by kernel_rfl) (by simp) ?_
  intro j hj
  obtain rfl | rfl : j = 4 ∨ j = 10 := by simpa using hj
  focus
    clear hj
    have C1 := cloneM_any (N0.out) t.gm (N0.out.getm t.gm)
    refine opR_call 10 rfl rfl (by kernel_rfl) _ _ _ rfl _ (by kernel_rfl) (C1.mono ?_)
    rintro e XN1 ⟨g1, rfl, m⟩
    have N1 := Lib.hid m
    clear m C1
    refine ⟨_, rfl, N1.out.getc s, ?_⟩
    refine wpAnyH_all (rs := [9, 10]) (by kernel_rfl) (by simp) ?_
    intro j hj
    obtain rfl | rfl : j = 9 ∨ j = 10 := by simpa using hj
    focus
      clear hj
      have C1 := cloneG_any (N1.out) t.gg (N1.out.getm t.gg)
      refine opR_call 15 rfl rfl (by kernel_rfl) _ _ _ rfl _ (by kernel_rfl) (C1.mono ?_)
      rintro e XN2 ⟨g2, rfl, m⟩
      have N2 := Lib.hid m
      clear m C1
      refine ⟨_, rfl, N2.out.getc s, ?_⟩
      refine wpAnyH_all (rs := [10]) (by kernel_rfl) (by simp) ?_
      intro j hj
      obtain rfl : j = 10 := by simpa using hj
      clear hj
      have N3 := Lib.hid (N2.out.newmp)
      refine opR_run (v := .map (some XN2.heap.size)) (w' := XN2.alloc (.map #[] 0)) 16 rfl (by kernel_rfl) (by kernel_rfl) (by kernel_rfl) ?_
      refine ⟨N3.out.getc s, ?_⟩
      obtain ⟨XN3, hX⟩ : ∃ XN3, XN2.alloc (.map #[] 0) = XN3 := ⟨_, rfl⟩
      rw [hX] at N3 ⊢
      clear hX
      generalize XN2.heap.size = g3 at N3 ⊢
      have NZ := Lib.hid (N3.out.norm (Star (Mp g1 (t.ml.map MdE.ent) t.mc) (Star (Mp g2 (t.gl.map GnE.ent) t.gc) (Star (Mp g3 [] 0) (Tl s t Y)))))
      have hS := NZ.out.getc s
      obtain ⟨XZ, hX⟩ : ∃ XZ, XZ = XN3 := ⟨_, rfl⟩
      rw [← hX] at NZ hS ⊢
      clear N0 N1 N2 N3 hX
    rotate_left 1
    focus
      clear hj
      have N2 := Lib.hid (N1.out.newmp)
      refine opR_run (v := .map (some XN1.heap.size)) (w' := XN1.alloc (.map #[] 0)) 16 rfl (by kernel_rfl) (by kernel_rfl) (by kernel_rfl) ?_
      refine ⟨N2.out.getc s, ?_⟩
      obtain ⟨XN2, hX⟩ : ∃ XN2, XN1.alloc (.map #[] 0) = XN2 := ⟨_, rfl⟩
      rw [hX] at N2 ⊢
      clear hX
      generalize XN1.heap.size = g3 at N2 ⊢
      refine wpAnyH_all (rs := [9]) (by kernel_rfl) (by simp) ?_
      intro j hj
      obtain rfl : j = 9 := by simpa using hj
      clear hj
      have C1 := cloneG_any (N2.out) t.gg (N2.out.getm t.gg)
      refine opR_call 15 rfl rfl (by kernel_rfl) _ _ _ rfl _ (by kernel_rfl) (C1.mono ?_)
      rintro e XN3 ⟨g2, rfl, m⟩
      have N3 := Lib.hid m
      clear m C1
      refine ⟨_, rfl, N3.out.getc s, ?_⟩
      have NZ := Lib.hid (N3.out.norm (Star (Mp g1 (t.ml.map MdE.ent) t.mc) (Star (Mp g2 (t.gl.map GnE.ent) t.gc) (Star (Mp g3 [] 0) (Tl s t Y)))))
      have hS := NZ.out.getc s
      obtain ⟨XZ, hX⟩ : ∃ XZ, XZ = XN3 := ⟨_, rfl⟩
      rw [← hX] at NZ hS ⊢
      clear N0 N1 N2 N3 hX
  rotate_left 2
  focus
    clear hj
    have N1 := Lib.hid (N0.out.newmp)
    refine opR_run (v := .map (some XN0.heap.size)) (w' := XN0.alloc (.map #[] 0)) 16 rfl (by kernel_rfl) (by kernel_rfl) (by kernel_rfl) ?_
    refine ⟨N1.out.getc s, ?_⟩
    obtain ⟨XN1, hX⟩ : ∃ XN1, XN0.alloc (.map #[] 0) = XN1 := ⟨_, rfl⟩
    rw [hX] at N1 ⊢
    clear hX
    generalize XN0.heap.size = g3 at N1 ⊢
    refine wpAnyH_all (rs := [4]) (by kernel_rfl) (by simp) ?_
    intro j hj
    obtain rfl : j = 4 := by simpa using hj
    clear hj
    have C1 := cloneM_any (N1.out) t.gm (N1.out.getm t.gm)
    refine opR_call 10 rfl rfl (by kernel_rfl) _ _ _ rfl _ (by kernel_rfl) (C1.mono ?_)
    rintro e XN2 ⟨g1, rfl, m⟩
    have N2 := Lib.hid m
    clear m C1
    refine ⟨_, rfl, N2.out.getc s, ?_⟩
    refine wpAnyH_all (rs := [9]) (by kernel_rfl) (by simp) ?_
    intro j hj
    obtain rfl : j = 9 := by simpa using hj
    clear hj
    have C1 := cloneG_any (N2.out) t.gg (N2.out.getm t.gg)
    refine opR_call 15 rfl rfl (by kernel_rfl) _ _ _ rfl _ (by kernel_rfl) (C1.mono ?_)
    rintro e XN3 ⟨g2, rfl, m⟩
    have N3 := Lib.hid m
    clear m C1
    refine ⟨_, rfl, N3.out.getc s, ?_⟩
    have NZ := Lib.hid (N3.out.norm (Star (Mp g1 (t.ml.map MdE.ent) t.mc) (Star (Mp g2 (t.gl.map GnE.ent) t.gc) (Star (Mp g3 [] 0) (Tl s t Y)))))
    have hS := NZ.out.getc s
    obtain ⟨XZ, hX⟩ : ∃ XZ, XZ = XN3 := ⟨_, rfl⟩
    rw [← hX] at NZ hS ⊢
    clear N0 N1 N2 N3 hX
  all_goals
    refine takeR (i := 19) (v := .agg #[.map (some g1), .map (some g2), .map (some g3), .bool t.sd, .int .i64 t.ar]) 25 rfl (by kernel_rfl) (by kernel_rfl) (by kernel_rfl) (by kernel_rfl) (fun _ _ _ h => h) (yields_pure (by kernel_rfl) (fun w => by kernel_rfl)) hS ?_

    have Nc := Lib.hid (NZ.out.newcel 56 #[.map (some g1), .map (some g2), .map (some g3), .bool t.sd, .int .i64 t.ar])
    refine wpAnyH_all (rs := [20]) (by kernel_rfl) (by simp) ?_
    intro j hj
    obtain rfl : j = 20 := by simpa using hj
    clear hj
    refine opR_run (v := .pointer (some ⟨XZ.heap.size, 0, none⟩)) (w' := XZ.alloc (.cells #[.map (some g1), .map (some g2), .map (some g3), .bool t.sd, .int .i64 t.ar] 56)) 26 rfl (by kernel_rfl) (by kernel_rfl) (by kernel_rfl) ?_
    refine ⟨Nc.out.getc s, ?_⟩
    have hS := Nc.out.getc s
    refine takeR (i := 21) (v := .pointer (some ⟨XZ.heap.size, 0, none⟩)) 3 rfl (by kernel_rfl) (by kernel_rfl) (by kernel_rfl) (by kernel_rfl) (fun _ _ _ h => h) (yields_pure (by kernel_rfl) (fun w => by kernel_rfl)) hS ?_

    refine wpAnyH_done (by kernel_rfl) ?_ _
    refine NoPanic.normal ?_
    simp only [Act.put, List.setIfInBounds_toArray, List.set_cons_succ, List.set_cons_zero]
    obtain ⟨W1, hW⟩ : ∃ W1, XZ.alloc (.cells #[.map (some g1), .map (some g2), .map (some g3), .bool t.sd, .int .i64 t.ar] 56) = W1 := ⟨_, rfl⟩
    rw [hW] at Nc ⊢
    clear hW hS NZ
    generalize XZ.heap.size = c at Nc ⊢
    have s2 : W1.cell? ⟨s, 2, none⟩ = some (.map (some t.gt)) := Nc.out.cellat s 2 rfl
    have Ma := Lib.hid (Nc.out.newitr t.gt t.tc)
    go_upto_region 3 with (first | (refine wpList_mrange rfl 54 3 66 _ rfl Tryz.underlying54 t.gt (t.tl.map ThE.ent) t.tc rfl (Nc.out.getm t.gt) ?_))
    obtain ⟨W2, hW⟩ : ∃ W2, W1.alloc (.mapIter (some t.gt) t.tc #[] t.tc) = W2 := ⟨_, rfl⟩
    rw [hW] at Ma ⊢
    clear hW
    generalize W1.heap.size = it at Ma ⊢
    have M2 : Hid (Has B w W2 (Star (Itr it t.gt t.tc #[] t.tc) (Star (Cel c 56 #[.map (some g1), .map (some g2), .map (some g3), .bool t.sd, .int .i64 t.ar]) (Star (Mp g1 (t.ml.map MdE.ent) t.mc) (Star (Mp g2 (t.gl.map GnE.ent) t.gc) (Star (Mp g3 (([] : List ThE).map ThE.ent) 0) (Star (All thR ([] : List ThE)) (Tl s t Y)))))))) := Lib.hid (Ma.out.norm (Star (Itr it t.gt t.tc #[] t.tc) (Star (Cel c 56 #[.map (some g1), .map (some g2), .map (some g3), .bool t.sd, .int .i64 t.ar]) (Star (Mp g1 (t.ml.map MdE.ent) t.mc) (Star (Mp g2 (t.gl.map GnE.ent) t.gc) (Star (Mp g3 [] 0) (Star (All thR ([] : List ThE)) (Tl s t Y))))))))
    clear Ma Nc s2
    simp only [Act.put, List.setIfInBounds_toArray, List.set_cons_succ, List.set_cons_zero]
    go_loopw [] (fun wr => ∃ (seen : Array Nat) (tl2 : List ThE) (tc2 : Nat), Hid (((tl2.map cpK) ++ (leftA ThE.b t.tl seen).map cpK).Perm (t.tl.map cpK)) ∧ Hid (Good (tl2.map ThE.ent) tc2) ∧ Hid (Has B w wr (Star (Itr it t.gt t.tc seen t.tc) (Star (Cel c 56 #[.map (some g1), .map (some g2), .map (some g3), .bool t.sd, .int .i64 t.ar]) (Star (Mp g1 (t.ml.map MdE.ent) t.mc) (Star (Mp g2 (t.gl.map GnE.ent) t.gc) (Star (Mp g3 (tl2.map ThE.ent) tc2) (Star (All thR tl2) (Tl s t Y))))))))) (fun wr => (leftA ThE.b t.tl (wr.iterSeen it)).length)
    case atStart => exact ⟨#[], [], 0, Lib.hid (by rw [leftA_none]; exact List.Perm.refl _), Lib.hid Good.nil, M2⟩
    case round =>
      clear M2
      obtain ⟨seen, tl2, tc2, HPM, HGD, M8⟩ := hrel
      obtain ⟨w8, hw8⟩ : ∃ w8, w8 = wr := ⟨_, rfl⟩
      rw [← hw8] at M8 ⊢
      clear hw8
      rcases run_mnextA (P := Tryz.prog) (ent := ThE.ent) (key := ThE.k) (val := fun y => .agg (thA y.tp y.g)) (st := ThE.b) (fun _ => rfl) M8.out.itr (M8.out.getm t.gt) HG.out.gdt.past (Nat.le_refl _) with ⟨hD, hr⟩ | ⟨y, hy, w9, hr, hi9, hk9⟩
      · have HE : Hid (CopyE s t Y B w (.returned (.pointer (some ⟨c, 0, none⟩))) w8) := Lib.hid (by
          have hc : CpT t ⟨t.ml, t.mc, t.gl, t.gc, tl2, tc2, t.sd, t.ar, g1, g2, g3⟩ := ⟨rfl, rfl, rfl, rfl, rfl, rfl, by
            have h1 := HPM.out
            rw [hD, List.map_nil, List.append_nil] at h1
            exact h1, HGD.out⟩
          exact ⟨c, _, rfl, hc, Tl.copied (M8.out.right) hc⟩)
        clear hD M8
        go_wp2_with (first | (refine wpList_next0 rfl _ rfl it rfl hr ?_))
        go_ret
        exact HE.out
      · have hnd : (t.tl.map ThE.b).Nodup := by have := HG.out.gdt.born; rw [List.map_map] at this; exact this
        have M9 := Lib.hid (M8.out.stepitr hi9 hk9)
        have HLP := Lib.hid (leftA_push (st := ThE.b) hnd hy)
        have HSZ := Lib.hid M8.out.iseen
        have HYB := Lib.hid (List.mem_filter.1 hy).1
        have HFN := Lib.hid (cp_new HPM.out HG.out.kt hy)
        have Na := Lib.hid (M9.out.newcel 66 #[.int .i64 0, .map none])
        have Nb := Lib.hid (Na.out.rowc w9.heap.size (thA y.tp y.g))
        clear hy hnd hi9 hk9 M8
        go_upto_region 5 with (first | (refine wpList_next0 rfl _ rfl it rfl hr ?_) | (refine wpList_mentryA (ent := ThE.ent) (key := ThE.k) (val := fun y => .agg (thA y.tp y.g)) (st := ThE.b) (fun _ => rfl) rfl _ rfl it t.gt t.tc t.tc seen t.tl y rfl M9.out.itr (M9.out.getm t.gt) HYB.out HG.out.gdt.born ?_) | (refine wpList_store_row rfl 66 _ _ rfl w9.heap.size (thA y.tp y.g) rfl rfl 66 #[.int .i64 0, .map none] (Na.out.getc w9.heap.size) (by kernel_rfl) rfl (by kernel_rfl) ?_))
        obtain ⟨W3, hW⟩ : ∃ W3, (w9.alloc (.cells #[.int .i64 0, .map none] 66)).setRow w9.heap.size (thA y.tp y.g) = W3 := ⟨_, rfl⟩
        rw [hW] at Nb ⊢
        clear hW Na hr M9
        generalize w9.heap.size = x5 at Nb ⊢
        simp only [Act.put, List.setIfInBounds_toArray, List.set_cons_succ, List.set_cons_zero]
        have N0 := Lib.hid (Nb.out.stay ((Below.refl _ W3).drew))
        clear Nb
        have SS : Hid ((fun X : World => Blk X c 56 #[.map (some g1), .map (some g2), .map (some g3), .bool t.sd, .int .i64 t.ar] ∧ Blk X x5 66 (thA y.tp y.g)) W3.drew) := Lib.hid ⟨N0.out.getc c, N0.out.getc x5⟩
        have HC2 : Hid (∀ X : World, Blk X c 56 #[.map (some g1), .map (some g2), .map (some g3), .bool t.sd, .int .i64 t.ar] → X.cell? ⟨c, 2, none⟩ = some (.map (some g3))) := Lib.hid (fun X h => by rw [h.cell]; rfl)
        have HD0 : Hid (∀ X : World, Blk X x5 66 (thA y.tp y.g) → X.cell? ⟨x5, 0, none⟩ = some (.int .i64 y.tp)) := Lib.hid (fun X h => by rw [h.cell]; rfl)
        have HD1 : Hid (∀ X : World, Blk X x5 66 (thA y.tp y.g) → X.cell? ⟨x5, 1, none⟩ = some (.map (some y.g))) := Lib.hid (fun X h => by rw [h.cell]; rfl)
        refine wp_region_noPanic ?_
        refine wp_region_held_drew (S := fun X : World => Blk X c 56 #[.map (some g1), .map (some g2), .map (some g3), .bool t.sd, .int .i64 t.ar] ∧ Blk X x5 66 (thA y.tp y.g)) (by kernel_rfl) SS.out ?_
        clear SS
        intro hS
        refine takeR (i := 0) (v := .pointer (some ⟨c, 0, none⟩)) 37 rfl (by kernel_rfl) (by kernel_rfl) (by kernel_rfl) (by kernel_rfl) (fun _ _ _ h => h) (yields_pure (by kernel_rfl) (fun w => by kernel_rfl)) hS ?_
        refine takeR (i := 1) (v := .pointer (some ⟨c, 0, none⟩)) 38 rfl (by kernel_rfl) (by kernel_rfl) (by kernel_rfl) (by kernel_rfl) (fun _ _ _ h => h) (yields_pure (by kernel_rfl) (fun w => by kernel_rfl)) hS ?_
        refine takeR (i := 2) (v := .pointer (some ⟨c, 2, none⟩)) 39 rfl (by kernel_rfl) (by kernel_rfl) (by kernel_rfl) (by kernel_rfl) (fun _ _ _ h => h) (yields_pure (by kernel_rfl) (fun w => by kernel_rfl)) hS ?_
        refine takeR (i := 3) 40 rfl (by kernel_rfl) (by kernel_rfl) (by kernel_rfl) (by kernel_rfl) (fun _ _ _ h => h) (yields_load_cell (by kernel_rfl) 54 _ rfl c 2 (by kernel_rfl) (.map (some g3)) (fun X h => HC2.out X h.1) _ Tryz.underlying54 rfl) hS ?_
        refine takeR (i := 4) (v := .int .i64 y.k) 41 rfl (by kernel_rfl) (by kernel_rfl) (by kernel_rfl) (by kernel_rfl) (fun _ _ _ h => h) (yields_pure (by kernel_rfl) (fun w => by kernel_rfl)) hS ?_
        refine takeR (i := 5) (v := .pointer (some ⟨x5, 0, none⟩)) 42 rfl (by kernel_rfl) (by kernel_rfl) (by kernel_rfl) (by kernel_rfl) (fun _ _ _ h => h) (yields_pure (by kernel_rfl) (fun w => by kernel_rfl)) hS ?_
        refine takeR (i := 6) 43 rfl (by kernel_rfl) (by kernel_rfl) (by kernel_rfl) (by kernel_rfl) (fun _ _ _ h => h) (yields_load_cell (by kernel_rfl) 3 _ rfl x5 0 (by kernel_rfl) (.int .i64 y.tp) (fun X h => HD0.out X h.2) _ Tryz.underlying3 rfl) hS ?_
        refine takeR (i := 7) (v := .pointer (some ⟨x5, 1, none⟩)) 44 rfl (by kernel_rfl) (by kernel_rfl) (by kernel_rfl) (by kernel_rfl) (fun _ _ _ h => h) (yields_pure (by kernel_rfl) (fun w => by kernel_rfl)) hS ?_
        refine takeR (i := 8) 45 rfl (by kernel_rfl) (by kernel_rfl) (by kernel_rfl) (by kernel_rfl) (fun _ _ _ h => h) (yields_load_cell (by kernel_rfl) 64 _ rfl x5 1 (by kernel_rfl) (.map (some y.g)) (fun X h => HD1.out X h.2) _ Tryz.underlying64 rfl) hS ?_

        clear HC2 HD0 HD1 hS
        refine wpAnyH_all (rs := [9]) (by kernel_rfl) (by simp) ?_
        intro j hj
        obtain rfl : j = 9 := by simpa using hj
        clear hj
        obtain ⟨l1, l2, hl, -⟩ := efind_split (efind_of_mem HG.out.kt HYB.out)
        have hgy := (Tl.take (N0.out.norm (Tl s t Y)) hl).getm y.g
        have C1 := cloneK_any (N0.out) y.g hgy
        refine opR_call 46 rfl rfl (by kernel_rfl) _ _ _ rfl _ (by kernel_rfl) (C1.mono ?_)
        rintro e X1 ⟨gn, rfl, m⟩
        have N1 := Lib.hid m
        clear m C1 hgy
        refine ⟨_, rfl, ⟨N1.out.getc c, N1.out.getc x5⟩, ?_⟩
        have hS : Blk X1 c 56 #[.map (some g1), .map (some g2), .map (some g3), .bool t.sd, .int .i64 t.ar] ∧ Blk X1 x5 66 (thA y.tp y.g) := ⟨N1.out.getc c, N1.out.getc x5⟩
        refine takeR (i := 10) (v := .agg (thA y.tp gn)) 47 rfl (by kernel_rfl) (by kernel_rfl) (by kernel_rfl) (by kernel_rfl) (fun _ _ _ h => h) (yields_pure (by kernel_rfl) (fun w => by kernel_rfl)) hS ?_

        clear hS
        refine wpAnyH_all (rs := [11]) (by kernel_rfl) (by simp) ?_
        intro j hj
        obtain rfl : j = 11 := by simpa using hj
        clear hj
        have N2 := Lib.hid (N1.out.setm g3 (mset (tl2.map ThE.ent) y.k (.agg (thA y.tp gn)) tc2) (mclk (tl2.map ThE.ent) y.k tc2))
        refine opR_skip (w' := World.putO X1 g3 (.map ((mset (tl2.map ThE.ent) y.k (.agg (thA y.tp gn)) tc2).map entM).toArray (mclk (tl2.map ThE.ent) y.k tc2))) rfl (by kernel_rfl) (by kernel_rfl) (exec_mset rfl Tryz.underlying54 Tryz.underlying3 (by kernel_rfl) (by kernel_rfl) (by kernel_rfl) (N1.out.getm g3)) ?_
        refine ⟨⟨N2.out.getc c, N2.out.getc x5⟩, ?_⟩
        refine wpAnyH_done (by kernel_rfl) ?_ _
        refine NoPanic.normal ?_
        simp only [Act.put, List.setIfInBounds_toArray, List.set_cons_succ, List.set_cons_zero]
        obtain ⟨W4, hW⟩ : ∃ W4, (World.putO X1 g3 (.map ((mset (tl2.map ThE.ent) y.k (.agg (thA y.tp gn)) tc2).map entM).toArray (mclk (tl2.map ThE.ent) y.k tc2))) = W4 := ⟨_, rfl⟩
        rw [hW] at N2 ⊢
        clear hW N1 N0
        obtain ⟨e1, e2, e3⟩ := cp_good (tp := y.tp) (g := gn) (c := y.c) (bl := y.bl) HGD.out HFN.out
        have HGD2 := Lib.hid e3
        have HP2 := Lib.hid (cp_step HPM.out HLP.out (show cpK ⟨y.k, y.tp, gn, y.bl, y.c, tc2⟩ = cpK y from rfl))
        have Mb : Hid (Has B w W4 (Star (Itr it t.gt t.tc (seen.push y.b) t.tc) (Star (Cel c 56 #[.map (some g1), .map (some g2), .map (some g3), .bool t.sd, .int .i64 t.ar]) (Star (Mp g1 (t.ml.map MdE.ent) t.mc) (Star (Mp g2 (t.gl.map GnE.ent) t.gc) (Star (Mp g3 ((tl2 ++ [(⟨y.k, y.tp, gn, y.bl, y.c, tc2⟩ : ThE)]).map ThE.ent) (tc2 + 1)) (Star (All thR (tl2 ++ [(⟨y.k, y.tp, gn, y.bl, y.c, tc2⟩ : ThE)])) (Tl s t Y)))))))) := Lib.hid (by
          have h1 := N2.out
          rw [e1, e2] at h1
          have h2 := h1.norm (Star (Mp gn (y.bl.map BkE.ent) y.c) (Star (All thR tl2) (Star (Itr it t.gt t.tc (seen.push y.b) t.tc) (Star (Cel c 56 #[.map (some g1), .map (some g2), .map (some g3), .bool t.sd, .int .i64 t.ar]) (Star (Mp g1 (t.ml.map MdE.ent) t.mc) (Star (Mp g2 (t.gl.map GnE.ent) t.gc) (Star (Mp g3 ((tl2 ++ [(⟨y.k, y.tp, gn, y.bl, y.c, tc2⟩ : ThE)]).map ThE.ent) (tc2 + 1)) (Tl s t Y))))))))
          have h3 : Has B w _ (Star (All thR (tl2 ++ [(⟨y.k, y.tp, gn, y.bl, y.c, tc2⟩ : ThE)])) (Star (Itr it t.gt t.tc (seen.push y.b) t.tc) (Star (Cel c 56 #[.map (some g1), .map (some g2), .map (some g3), .bool t.sd, .int .i64 t.ar]) (Star (Mp g1 (t.ml.map MdE.ent) t.mc) (Star (Mp g2 (t.gl.map GnE.ent) t.gc) (Star (Mp g3 ((tl2 ++ [(⟨y.k, y.tp, gn, y.bl, y.c, tc2⟩ : ThE)]).map ThE.ent) (tc2 + 1)) (Tl s t Y))))))) := h2.imp (fun F hh => all_put (f := thR) (x := (⟨y.k, y.tp, gn, y.bl, y.c, tc2⟩ : ThE)) (l1 := tl2) (l2 := []) (by rw [List.append_nil]; exact hh))
          exact h3.norm _)
        have HM : Hid ((leftA ThE.b t.tl (W4.iterSeen it)).length < (leftA ThE.b t.tl (w8.iterSeen it)).length) := Lib.hid (by
          rw [Mb.out.iseen, HSZ.out]
          have := HLP.out.length_eq
          simp only [List.length_cons] at this
          omega)
        clear e1 e2 e3 N2 HLP HSZ HYB HFN hl
        first
          | (go_roundw
             case rel => exact ⟨_, _, _, HP2, HGD2, Mb⟩
             case measure => exact HM.out)
          | (refine ⟨?_, ?_⟩
             · (repeat apply Exists.intro)
               refine ⟨?_, rfl⟩
               exact ⟨_, _, _, HP2, HGD2, Mb⟩
             · exact HM.out)
          | exact ⟨⟨_, _, _, HP2, HGD2, Mb⟩, HM.out⟩
end Go.Proofs.YtpenejigebkkmaaGreat
