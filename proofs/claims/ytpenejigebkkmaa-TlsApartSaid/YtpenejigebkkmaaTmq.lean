/-
  Layer 17: the plain invariant of the state is kept by whatever act.
  Conditions: none. (My own text.)
-/
import Derived.Test.YtpenejigebkkmaaTmp
namespace Go.Proofs.Ytpenejigebkkmaa
open Go.RowKit Spm
set_option linter.unusedVariables false
set_option linter.unusedSimpArgs false

theorem edel_mem {α : Type} {key : α → Int} {k : Int} {y : α} : ∀ {l : List α}, y ∈ edel key l k → y ∈ l
  | [], h => h
  | e :: l, h => by
    unfold edel at h
    by_cases hk : k = key e
    · rw [if_pos hk] at h; exact List.mem_cons_of_mem _ h
    · rw [if_neg hk] at h
      rcases List.mem_cons.1 h with rfl | h
      · simp
      · exact List.mem_cons_of_mem _ (edel_mem h)
theorem TsGood.gset {t : Ts} (h : TsGood t) (n v : Int) : TsGood (gsetT t n v) :=
  ⟨h.gdm, by have := h.gdg.set n (.int .i64 v); rw [gsetL_m] at this; exact this, h.gdt, h.gdb⟩
theorem TInv.exit {t : Ts} {L : List Rg} {id r : Int} {t' : Ts} {L' : List Rg} (h : TInv t) (hp : ExitP t L id r t' L') : TInv t' := by
  unfold ExitP at hp
  cases hf : efind ThE.k t.tl id with
  | none => rw [hf] at hp; obtain ⟨-, rfl, -⟩ := hp; exact h
  | some x =>
    rw [hf] at hp
    obtain ⟨-, rfl, -⟩ := hp
    refine ⟨⟨h.good.gdm, h.good.gdg, ?_, fun y hy => h.good.gdb y (edel_mem hy)⟩, h.ok, h.key⟩
    have := h.good.gdt.del id
    rw [mdel_edel (ent := ThE.ent) (key := ThE.k) (fun _ => rfl)] at this
    exact this
theorem TInv.rel {t : Ts} {L : List Rg} {n r : Int} {t' : Ts} {L' : List Rg} (h : TInv t) (hp : RelP t L n r t' L') : TInv t' := by
  unfold RelP at hp
  cases hf : efind MdE.k t.ml n with
  | none => rw [hf] at hp; obtain ⟨-, rfl, -⟩ := hp; exact h
  | some x =>
    rw [hf] at hp
    dsimp only at hp
    split at hp
    · obtain ⟨-, rfl, -⟩ := hp; exact h
    · obtain ⟨-, rfl, -⟩ := hp
      refine ⟨⟨?_, h.good.gdg, ?_, ?_⟩, fun y hy => h.ok y (edel_mem hy), fun y hy => h.key y (edel_mem hy)⟩
      · have := h.good.gdm.del n
        rw [mdel_edel (ent := MdE.ent) (key := MdE.k) (fun _ => rfl)] at this
        exact this
      · have e : (t.tl.map (dropB n)).map ThE.ent = t.tl.map ThE.ent := by rw [List.map_map]; rfl
        show Good ((t.tl.map (dropB n)).map ThE.ent) t.tc
        rw [e]
        exact h.good.gdt
      · intro y hy
        obtain ⟨z, hz, rfl⟩ := List.mem_map.1 hy
        have := (h.good.gdb z hz).del n
        rw [mdel_edel (ent := BkE.ent) (key := BkE.k) (fun _ => rfl)] at this
        exact this
theorem TInv.start {t : Ts} {L : List Rg} {id n r : Int} {t' : Ts} {L' : List Rg} (h : TInv t) (hp : StartP t L id n r t' L') : TInv t' := by
  unfold StartP at hp
  split at hp
  · obtain ⟨-, -, rfl, -⟩ := hp; exact h
  · rename_i hn
    split at hp
    · obtain ⟨-, -, ⟨g, rfl⟩, -⟩ := hp
      have hfn : efind ThE.k t.tl id = none := by
        cases hf : efind ThE.k t.tl id with
        | none => rfl
        | some x => exact absurd (.inl (by rw [hf]; rfl)) hn
      refine ⟨⟨h.good.gdm, h.good.gdg, ?_, fun y hy => ?_⟩, h.ok, h.key⟩
      · have := h.good.gdt.set id (.agg (thA (mapS L (max 8 t.ar) 3).2.1 g))
        rw [mset_eset (ent := ThE.ent) (key := ThE.k) (st := ThE.b) (fun _ => rfl) (fun _ => rfl) (k := id) (v := .agg (thA (mapS L (max 8 t.ar) 3).2.1 g)) (mk := fun b => (⟨id, (mapS L (max 8 t.ar) 3).2.1, g, [], 0, b⟩ : ThE)) (fun _ => rfl), eset_new hfn, mclk_new (ent := ThE.ent) (key := ThE.k) (fun _ => rfl) hfn] at this
        exact this
      · rcases List.mem_append.1 hy with hy | hy
        · exact h.good.gdb y hy
        · obtain rfl := List.mem_singleton.1 hy
          exact Good.nil
    · obtain ⟨-, -, rfl, -⟩ := hp; exact h
theorem TInv.addr {t : Ts} {L : List Rg} {id n off p r : Int} {t' : Ts} {L' : List Rg} (h : TInv t) (hp : AddrP t L id n off p r t' L') : TInv t' := by
  unfold AddrP at hp
  cases hf : efind ThE.k t.tl id with
  | none => rw [hf] at hp; obtain ⟨-, -, rfl, -⟩ := hp; exact h
  | some x =>
    rw [hf] at hp
    dsimp only at hp
    cases hm : efind MdE.k t.ml n with
    | none => rw [hm] at hp; obtain ⟨-, -, rfl, -⟩ := hp; exact h
    | some y =>
      rw [hm] at hp
      dsimp only at hp
      split at hp
      · obtain ⟨-, -, rfl, -⟩ := hp; exact h
      · split at hp
        · obtain ⟨-, -, rfl, -⟩ := hp; exact h
        · unfold AddrBP at hp
          cases hb : efind BkE.k x.bl n with
          | some b => rw [hb] at hp; obtain ⟨-, -, rfl, -⟩ := hp; exact h
          | none =>
            rw [hb] at hp
            dsimp only at hp
            split at hp
            · obtain ⟨-, -, rfl, -⟩ := hp
              obtain ⟨l1, l2, hl, -, hkx, hset⟩ := efind_split hf
              have e3 : addB id n x y (mapS L y.x.size 3).2.1 t.tl = l1 ++ ⟨id, x.tp, x.g, x.bl ++ [newB n y (mapS L y.x.size 3).2.1 x.c], x.c + 1, x.b⟩ :: l2 := by unfold addB; exact hset _ _ _
              have e4 : (addB id n x y (mapS L y.x.size 3).2.1 t.tl).map ThE.ent = t.tl.map ThE.ent := by
                rw [e3, hl, List.map_append, List.map_append, List.map_cons, List.map_cons]
                have : ThE.ent ⟨id, x.tp, x.g, x.bl ++ [newB n y (mapS L y.x.size 3).2.1 x.c], x.c + 1, x.b⟩ = ThE.ent x := by unfold ThE.ent; rw [hkx]
                rw [this]
              refine ⟨⟨h.good.gdm, h.good.gdg, ?_, ?_⟩, h.ok, h.key⟩
              · show Good ((addB id n x y (mapS L y.x.size 3).2.1 t.tl).map ThE.ent) t.tc
                rw [e4]
                exact h.good.gdt
              · intro z hz
                have hz' : z ∈ l1 ++ (⟨id, x.tp, x.g, x.bl ++ [newB n y (mapS L y.x.size 3).2.1 x.c], x.c + 1, x.b⟩ : ThE) :: l2 := by rw [← e3]; exact hz
                have hx : x ∈ t.tl := (efind_mem hf).1
                rcases List.mem_append.1 hz' with hz' | hz'
                · exact h.good.gdb z (by rw [hl]; simp [hz'])
                · rcases List.mem_cons.1 hz' with rfl | hz'
                  · have := (h.good.gdb x hx).set n (.agg (bkA ⟨n, y.x.gen, (mapS L y.x.size 3).2.1, y.x.size⟩))
                    rw [mset_eset (ent := BkE.ent) (key := BkE.k) (st := BkE.b) (fun _ => rfl) (fun _ => rfl) (k := n) (v := .agg (bkA ⟨n, y.x.gen, (mapS L y.x.size 3).2.1, y.x.size⟩)) (mk := fun b => newB n y (mapS L y.x.size 3).2.1 b) (fun _ => rfl), eset_new hb, mclk_new (ent := BkE.ent) (key := BkE.k) (fun _ => rfl) hb] at this
                    exact this
                  · exact h.good.gdb z (by rw [hl]; simp [hz'])
            · obtain ⟨-, -, rfl, -⟩ := hp; exact h
theorem TInv.reg {t : Ts} {tm : List UInt8} {size : Int} {st : Bool} {n r : Int} {t' : Ts} (h : TInv t) (hp : RegP t tm size st n r t') : TInv t' := by
  unfold RegP at hp
  split at hp
  · obtain ⟨-, -, rfl⟩ := hp; exact h
  rename_i hbad
  split at hp
  · obtain ⟨-, -, rfl⟩ := hp; exact h
  obtain ⟨m, hm, hp⟩ := hp
  split at hp
  · obtain ⟨-, -, rfl⟩ := hp; exact h
  rename_i h64
  split at hp
  · obtain ⟨-, -, rfl⟩ := hp
    exact ⟨(h.good.gset _ _).gset _ _, h.ok, h.key⟩
  obtain ⟨-, -, v, rfl⟩ := hp
  have hfn := mszS_none h.key hm.2.2.2
  have hg := h.good.gset m (wrap64 (gget t.gl m + 1))
  refine ⟨⟨?_, hg.gdg, hg.gdt, hg.gdb⟩, fun y hy => ?_, fun y hy => ?_⟩
  · have := h.good.gdm.set m (.agg (mdA (newM t m tm size st v).x v))
    rw [mset_eset (ent := MdE.ent) (key := MdE.k) (st := MdE.b) (fun _ => rfl) (fun _ => rfl) (k := m) (v := .agg (mdA (newM t m tm size st v).x v)) (mk := fun b => (⟨m, (newM t m tm size st v).x, v, b⟩ : MdE)) (fun _ => rfl), eset_new hfn, mclk_new (ent := MdE.ent) (key := MdE.k) (fun _ => rfl) hfn] at this
    exact this
  · rcases List.mem_append.1 hy with hy | hy
    · exact h.ok y hy
    · obtain rfl := List.mem_singleton.1 hy
      exact ⟨show (tm.length : Int) ≤ size by omega, show size ≤ 4096 by omega⟩
  · rcases List.mem_append.1 hy with hy | hy
    · exact h.key y hy
    · obtain rfl := List.mem_singleton.1 hy
      exact ⟨show m ≤ 64 by omega, show 1 ≤ size by omega⟩
theorem TInv.does {x : TAct} {t : Ts} {L : List Rg} {n r : Int} {t' : Ts} {L' : List Rg} (h : TInv t) (hp : DoesT x t L n r t' L') : TInv t' := by
  unfold DoesT at hp
  split at hp
  · exact h.reg hp.1
  split at hp
  · exact h.rel hp.2
  split at hp
  · exact h.start hp
  split at hp
  · exact h.exit hp.2
  split at hp
  · obtain ⟨L1, hp, -⟩ := hp
    exact h.addr hp
  · obtain ⟨-, -, rfl, -⟩ := hp; exact h
theorem TInv.new (gm gg gt : Nat) : TInv (ts0 gm gg gt) := ⟨ts0_good gm gg gt, fun y hy => by simp [ts0] at hy, fun y hy => by simp [ts0] at hy⟩
end Go.Proofs.Ytpenejigebkkmaa
