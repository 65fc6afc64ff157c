/-
  Layer 16: what copied, and Apply, of the program compute.
  Conditions: none. (My own text.)
-/
import Derived.Test.YtpononkgeeahdaaSp5
import Derived.Test.YtpononkgeeahdaaRelw
import Derived.Deep.RegionHeld3
import Derived.Deep.DrawnRows
import Derived.StillTailTactics
namespace Go.Proofs.Ytpononkgeeahdaa
open Go.RowKit Spm
set_option linter.unusedVariables false
set_option linter.unusedSimpArgs false

/-- A relocation; what it needs to know. -/
structure Rel where
  at_ : Int
  kind : Int
  sym : Int
  add : Int
structure Fct where
  base : Int
  addr : Int
  size : Int
  mod : Int
  off : Int
  beh : Int
  st : Bool
  mi : Bool
def relC (r : Rel) : List Value := [.int .i64 r.at_, .int .i64 r.kind, .int .i64 r.sym, .int .i64 r.add]
def fctC (f : Fct) : List Value := [.int .i64 f.base, .int .i64 f.addr, .int .i64 f.size, .int .i64 f.mod, .int .i64 f.off, .int .i64 f.beh, .bool f.st, .bool f.mi]
def wordS_ (r : Rel) (f : Fct) : Int × Int := relWord r.at_ r.kind r.add f.base f.addr f.size f.mod f.off f.beh f.st f.mi

def copyS (L : List Rg) (tt : Int) (f : Fct) : List Rg × Int :=
  if f.mi = true ∨ f.size = 0 then (L, 0) else
  if (getS L f.addr f.size 0).2 ≠ 0 then (L, (getS L f.addr f.size 0).2) else setS L tt (getS L f.addr f.size 0).1 0
def oneS (L : List Rg) (base : Int) (r : Rel) (f : Fct) : List Rg × Int :=
  if r.kind = 2 then copyS L (wrap64 (base + r.at_)) f else
  if (wordS_ r f).2 ≠ 0 then (L, (wordS_ r f).2) else setS L (wrap64 (base + r.at_)) (bytesS (wordS_ r f).1) 0
def applyL (base : Int) : List (Rel × Fct) → List Rg → List Rg × Int
  | [], L => (L, 0)
  | x :: l, L => if (oneS L base x.1 x.2).2 ≠ 0 then oneS L base x.1 x.2 else applyL base l (oneS L base x.1 x.2).1
def applyS (L : List Rg) (base : Int) (rs : List Rel) (fs : List Fct) : List Rg × Int :=
  if rs.length ≠ fs.length then (L, 1) else applyL base (rs.zip fs).reverse L

theorem copyS_ok {L : List Rg} (h : Ok L) (tt : Int) (f : Fct) : Ok (copyS L tt f).1 := by
  unfold copyS
  split
  · exact h
  · split
    · exact h
    · exact h.set _ _ _
theorem oneS_ok {L : List Rg} (h : Ok L) (base : Int) (r : Rel) (f : Fct) : Ok (oneS L base r f).1 := by
  unfold oneS
  split
  · exact copyS_ok h _ _
  · split
    · exact h
    · exact h.set _ _ _
theorem applyL_ok (base : Int) : ∀ (l : List (Rel × Fct)) (L : List Rg), Ok L → Ok (applyL base l L).1
  | [], L, h => h
  | x :: l, L, h => by
    unfold applyL
    split
    · exact oneS_ok h _ _ _
    · exact applyL_ok base l _ (oneS_ok h _ _ _)
theorem applyS_ok {L : List Rg} (h : Ok L) (base : Int) (rs : List Rel) (fs : List Fct) : Ok (applyS L base rs fs).1 := by
  unfold applyS
  split
  · exact h
  · exact applyL_ok _ _ _ h

theorem below_drew1 {w : World} : Below w.heap.size w w.drew := ⟨rfl, rfl, rfl, Nat.le_refl _, fun _ _ => rfl⟩
theorem wrap64_hi (n : Int) : wrap64 n ≤ 9223372036854775807 := by unfold wrap64; omega

theorem apply_step {base : Int} {x : Rel × Fct} {l : List (Rel × Fct)} {Lk : List Rg} {R r : List Rg × Int} (hA : applyL base (x :: l) Lk = R) (h : oneS Lk base x.1 x.2 = r) : (r.2 = 0 → applyL base l r.1 = R) ∧ (r.2 ≠ 0 → R = r) := by
  unfold applyL at hA
  rw [h] at hA
  exact ⟨fun hz => by rwa [if_neg (by simp [hz])] at hA, fun hz => by rw [if_pos hz] at hA; exact hA.symm⟩

/-- One act behind another. -/
theorem SetsE.then {a : Nat} {F : Nat → Prop} {L : List Rg} {r : List Rg × Int} {w w1 w' : World} {e : Ending} (hk : Keeps F w w1) (h : SetsE a (fun k => F k ∨ w.heap.size ≤ k) r w1 e w') : SetsE a F r w e w' :=
  ⟨h.1, h.2.1.mono (fun k hk' _ => by have := hk.size; rcases hk' with hk' | hk'; exact hk'; exact .inr (by omega)), hk.trans h.2.2 (fun i hi => hi)⟩

set_option maxRecDepth 100000 in
set_option maxHeartbeats 1000000 in
theorem copied_any (a : Nat) (F : Nat → Prop) (L : List Rg) (hok : Ok L) (tt : Int) (hto : tt ≤ 9223372036854775807) (f : Fct) (hf : f.addr ≤ 9223372036854775807) (w : World) (h : PSp w a F L) :
    Calls Try.prog 26 #[.pointer (some ⟨a, 0, none⟩), .int .i64 tt, .agg #[.int .i64 f.base, .int .i64 f.addr, .int .i64 f.size, .int .i64 f.mod, .int .i64 f.off, .int .i64 f.beh, .bool f.st, .bool f.mi]] w (SetsE a F (copyS L tt f) w) := by
  obtain ⟨base, addr, size, mod, off, beh, st, mi⟩ := f
  simp only at hf ⊢
  have hbo : ∀ o, Below w.heap.size w (w.alloc o) := fun o => (Below.refl _ _).alloc (Nat.le_refl _) o
  have HS := Lib.hid (fun (r : Int) o => SetsE.same (err := r) h (hbo o))
  cases mi
  · by_cases hz : size = 0
    · subst hz
      rw [show copyS L tt ⟨base, addr, 0, mod, off, beh, st, false⟩ = (L, 0) from by simp [copyS]]
      clear h hok hbo
      go_enter Try.func26, Try.ntmps26
      go_wp2
      go_ret
      exact HS.out _ _
    · have ez : (size == 0) = false := beq_eq_false_iff_ne.2 hz
      have C1 := Lib.hid (fun o => peek_any a F L hok addr hf size _ (h.stay (hbo o)))
      by_cases hE : (getS L addr size 0).2 = 0
      · rw [show copyS L tt ⟨base, addr, size, mod, off, beh, st, false⟩ = setS L tt (getS L addr size 0).1 0 from by simp [copyS, hz, hE]]
        rw [hE] at C1
        have C2 := Lib.hid (fun (w1 : World) (hb : Below w.heap.size w w1) (A : Option Addr) (c : Nat) (hl : (getS L addr size 0).1.length ≤ 9223372036854775807) (hs : SrcB w1 A (getS L addr size 0).1) => (poke_any a F L hok tt hto A c _ hl w1 (h.stay hb) hs).mono fun e w' h' => SetsE.after hb h')
        have HBO := Lib.hid hbo
        clear HS h hbo hok hz hE
        generalize (getS L addr size 0).1 = b at C1 C2 ⊢
        generalize setS L tt b 0 = r at C2 ⊢
        go_enter Try.func26, Try.ntmps26
        go_wp2_with fail
        refine (C1.out _).mono ?_
        rintro e w1 ⟨v1, rfl, hb1, h1⟩
        obtain ⟨A, c, rfl, hc1, hc2, hs1⟩ := hb1.src'
        have H1 := Lib.hid ((HBO.out _).trans (h1.mono (HBO.out _).size))
        have HS1 := Lib.hid hs1
        unfold maxLen at hc2
        have hl : b.length ≤ 9223372036854775807 := by omega
        clear hb1 h1 hs1
        go_wp2_with fail
        refine (C2.out _ H1.out A c hl HS1.out).mono ?_
        rintro e w2 ⟨rfl, h2, h3⟩
        have H2 := Lib.hid h2; clear h2
        have H3 := Lib.hid h3; clear h3
        go_wp2
        go_ret
        exact ⟨rfl, H2.out, H3.out⟩
      · rw [show copyS L tt ⟨base, addr, size, mod, off, beh, st, false⟩ = (L, (getS L addr size 0).2) from by simp [copyS, hz, hE]]
        have ee : ((getS L addr size 0).2 == 0) = false := beq_eq_false_iff_ne.2 hE
        have HS2 := Lib.hid (fun (w1 : World) (hb : Below w.heap.size w w1) => SetsE.same (err := (getS L addr size 0).2) h hb)
        have HBO := Lib.hid hbo
        clear HS h hbo hok hz hE
        generalize (getS L addr size 0).2 = E at *
        go_enter Try.func26, Try.ntmps26
        go_wp2_with fail
        refine (C1.out _).mono ?_
        rintro e w1 ⟨v1, rfl, hb1, h1⟩
        have H1 := Lib.hid ((HBO.out _).trans (h1.mono (HBO.out _).size))
        clear hb1 h1
        go_wp2
        go_ret
        exact HS2.out _ H1.out
  · rw [show copyS L tt ⟨base, addr, size, mod, off, beh, st, true⟩ = (L, 0) from by simp [copyS]]
    clear h hok hbo
    go_enter Try.func26, Try.ntmps26
    go_wp2
    go_ret
    exact HS.out _ _

attribute [local go_sem ↓] Go.wp_at_zero Go.wp_at_succ
set_option maxRecDepth 100000 in
set_option maxHeartbeats 2000000 in
theorem apply_any (a : Nat) (F : Nat → Prop) (L : List Rg) (hok : Ok L) (base : Int) (vr vf : Value) (rs : List Rel) (fs : List Fct) (hfs : ∀ f ∈ fs, f.addr ≤ 9223372036854775807) (w : World) (h : PSp w a F L)
    (hr : RowsAt 4 relC w (fun k => ¬ F k) vr rs) (hf : RowsAt 8 fctC w (fun k => ¬ F k) vf fs) :
    Calls Try.prog 16 #[.pointer (some ⟨a, 0, none⟩), .int .i64 base, vr, vf] w (SetsE a F (applyS L base rs fs) w) := by
  obtain ⟨AR, cr, rfl, hcr, hmr, hrow⟩ := hr
  obtain ⟨AF, cf, rfl, hcf, hmf, hfow⟩ := hf
  unfold maxLen at hmr hmf
  by_cases hlen : rs.length = fs.length
  · have HR := Lib.hid hrow
    have HF := Lib.hid hfow
    have HFS := Lib.hid hfs
    rw [show applyS L base rs fs = applyL base (rs.zip fs).reverse L from by simp [applyS, hlen]]
    have hzl : (rs.zip fs).length = rs.length := by simp [List.length_zip, hlen]
    have HZL := Lib.hid hzl
    have HLEN := Lib.hid hlen
    rw [← hlen]
    have HS := Lib.hid h
    have HOK := Lib.hid hok
    clear hrow hfow hfs h hok hzl hcf hmf hlen
    go_enter Try.func16, Try.ntmps16
    go_wp2
    go_loopw [9] (fun i wr => ∃ (j : Nat) (Lk : List Rg), j ≤ rs.length ∧ i = .int .i64 ((j : Int) - 1) ∧ Hid (PSp wr a (fun k => F k ∨ w.heap.size ≤ k) Lk) ∧ Hid (Ok Lk) ∧ Hid (Keeps F w wr) ∧ Hid (applyL base ((rs.zip fs).take j).reverse Lk = applyL base (rs.zip fs).reverse L)) (fun i _ => (intOf i + 1).toNat)
    case atStart => exact ⟨rs.length, L, Nat.le_refl _, rfl, Lib.hid (HS.out.mono (fun k hk _ => .inl hk)), HOK, Lib.hid (Keeps.refl _ _), Lib.hid (by rw [List.take_of_length_le (by rw [HZL.out]; exact Nat.le_refl _)])⟩
    case round =>
      obtain ⟨j, Lk, hj, rfl, hP, hO, hK, hA⟩ := hrel
      cases j with
      | zero =>
        have HE : Hid (applyL base (rs.zip fs).reverse L = (Lk, 0)) := Lib.hid (by rw [← hA.out]; rfl)
        go_wp2
        go_ret
        rw [HE.out]
        exact ⟨rfl, hP.out, hK.out⟩
      | succ j =>
        obtain ⟨r, hrj⟩ : ∃ r, rs[j]? = some r := ⟨rs[j]'(by omega), List.getElem?_eq_getElem _⟩
        obtain ⟨f, hfj⟩ : ∃ f, fs[j]? = some f := ⟨fs[j]'(by have := HLEN.out; omega), List.getElem?_eq_getElem _⟩
        obtain ⟨rb, ro, rfl, hrF, hrl, hrc⟩ := HR.out j r hrj
        obtain ⟨fb, fo, rfl, hfF, hfl, hfc⟩ := HF.out j f hfj
        have hfa := HFS.out f (List.mem_of_getElem? hfj)
        have hstep : ((rs.zip fs).take (j + 1)).reverse = (r, f) :: ((rs.zip fs).take j).reverse := by
          have hz : (rs.zip fs)[j]? = some (r, f) := by rw [List.getElem?_zip_eq_some]; exact ⟨hrj, hfj⟩
          obtain ⟨h1, h2⟩ := List.getElem?_eq_some_iff.1 hz
          rw [List.take_succ_eq_append_getElem h1, h2, List.reverse_append]
          rfl
        have hA' := hA.out
        rw [hstep] at hA'
        have HAS := Lib.hid hA'
        have rc : ∀ (j' : Nat) (u : Value), (relC r)[j']? = some u → wr.cell? ⟨rb, ro + j * 4 + j', none⟩ = some u := fun j' u hu => (World.cell?_of_block (a := ⟨rb, ro + j * 4 + j', none⟩) (hK.out.block rb hrl hrF)).trans (hrc j' u hu)
        have fc : ∀ (j' : Nat) (u : Value), (fctC f)[j']? = some u → wr.cell? ⟨fb, fo + j * 8 + j', none⟩ = some u := fun j' u hu => (World.cell?_of_block (a := ⟨fb, fo + j * 8 + j', none⟩) (hK.out.block fb hfl hfF)).trans (hfc j' u hu)
        obtain ⟨ra, rk, rsy, rad⟩ := r
        obtain ⟨fba, fad, fsz, fmo, fof, fbe, fst_, fmi⟩ := f
        have r0 : wr.cell? ⟨rb, ro + j * 4, none⟩ = some (.int .i64 ra) := rc 0 _ rfl
        have r1 : wr.cell? ⟨rb, ro + j * 4 + 1, none⟩ = some (.int .i64 rk) := rc 1 _ rfl
        have r2 : wr.cell? ⟨rb, ro + j * 4 + 2, none⟩ = some (.int .i64 rsy) := rc 2 _ rfl
        have r3 : wr.cell? ⟨rb, ro + j * 4 + 3, none⟩ = some (.int .i64 rad) := rc 3 _ rfl
        have f0 : wr.cell? ⟨fb, fo + j * 8, none⟩ = some (.int .i64 fba) := fc 0 _ rfl
        have f1 : wr.cell? ⟨fb, fo + j * 8 + 1, none⟩ = some (.int .i64 fad) := fc 1 _ rfl
        have f2 : wr.cell? ⟨fb, fo + j * 8 + 2, none⟩ = some (.int .i64 fsz) := fc 2 _ rfl
        have f3 : wr.cell? ⟨fb, fo + j * 8 + 3, none⟩ = some (.int .i64 fmo) := fc 3 _ rfl
        have f4 : wr.cell? ⟨fb, fo + j * 8 + 4, none⟩ = some (.int .i64 fof) := fc 4 _ rfl
        have f5 : wr.cell? ⟨fb, fo + j * 8 + 5, none⟩ = some (.int .i64 fbe) := fc 5 _ rfl
        have f6 : wr.cell? ⟨fb, fo + j * 8 + 6, none⟩ = some (.bool fst_) := fc 6 _ rfl
        have f7 : wr.cell? ⟨fb, fo + j * 8 + 7, none⟩ = some (.bool fmi) := fc 7 _ rfl
        simp only at hfa
        have HC := Lib.hid (fun w1 tt (hto : tt ≤ 9223372036854775807) (hb : Below wr.heap.size wr w1) => (copied_any a _ Lk hO.out tt hto ⟨fba, fad, fsz, fmo, fof, fbe, fst_, fmi⟩ hfa w1 (hP.out.stay hb)).mono fun e w' h' => SetsE.after hb h')
        clear rc fc hrc hfc hrj hfj hA' hstep hA hrF hfF hfa
        have j1 : (0 : Int) ≤ (j : Int) := by omega
        have j2 : (j : Int) < (rs.length : Int) := by omega
        have j3 : (((j + 1 : Nat) : Int) - 1) = (j : Int) := by omega
        rw [j3]
        clear j3
        by_cases hk : rk = 2
        · subst hk
          have HOK1 := Lib.hid (copyS_ok hO.out (wrap64 (base + ra)) ⟨fba, fad, fsz, fmo, fof, fbe, fst_, fmi⟩)
          have HST := apply_step HAS.out (show oneS Lk base ⟨ra, 2, rsy, rad⟩ ⟨fba, fad, fsz, fmo, fof, fbe, fst_, fmi⟩ = copyS Lk (wrap64 (base + ra)) ⟨fba, fad, fsz, fmo, fof, fbe, fst_, fmi⟩ from by unfold oneS; rw [if_pos rfl])
          have C1 := Lib.hid (HC.out wr.drew (wrap64 (base + ra)) (wrap64_hi _) below_drew1)
          generalize copyS Lk (wrap64 (base + ra)) ⟨fba, fad, fsz, fmo, fof, fbe, fst_, fmi⟩ = r at HOK1 HST C1
          have HSTH := Lib.hid HST; clear HST
          go_wp2_with fail
          go_still_tail 12, (by kernel_rfl)
          go_wp2_with fail
          refine (C1.out).mono ?_
          rintro e w2 ⟨rfl, h2, h3⟩
          have H2 : Hid (PSp w2 a (fun k => F k ∨ w.heap.size ≤ k) r.1) := Lib.hid (h2.mono (fun k hk _ => by have := hK.out.size; rcases hk with hk | hk; exact hk; exact .inr (by omega)))
          have H3 : Hid (Keeps F w w2) := Lib.hid (hK.out.trans h3 (fun i hi => hi))
          clear h2 h3
          have HST := HSTH.out
          obtain ⟨q1, q2⟩ := HST
          by_cases hz : r.2 = 0
          · have HN := Lib.hid (q1 hz)
            rw [hz]
            clear q1 q2 hz
            go_wp2
            go_roundw
            case rel => exact ⟨j, r.1, by omega, rfl, Lib.hid H2.out, HOK1, Lib.hid H3.out, HN⟩
            case measure => simp [intOf]
          · have HN := Lib.hid (q2 hz)
            have ez : (r.2 == 0) = false := beq_eq_false_iff_ne.2 hz
            clear q1 q2 hz
            go_wp2
            go_ret
            rw [HN.out]
            exact ⟨rfl, H2.out, H3.out⟩
        · have ek : (rk == 2) = false := beq_eq_false_iff_ne.2 hk
          have CW := Lib.hid (fun w1 => rword_any ra rk rsy rad fba fad fsz fmo fof fbe fst_ fmi w1)
          have HST := fun r h => apply_step (r := r) HAS.out h
          have h1 : oneS Lk base ⟨ra, rk, rsy, rad⟩ ⟨fba, fad, fsz, fmo, fof, fbe, fst_, fmi⟩ = if (relWord ra rk rad fba fad fsz fmo fof fbe fst_ fmi).2 ≠ 0 then (Lk, (relWord ra rk rad fba fad fsz fmo fof fbe fst_ fmi).2) else setS Lk (wrap64 (base + ra)) (bytesS (relWord ra rk rad fba fad fsz fmo fof fbe fst_ fmi).1) 0 := by unfold oneS; rw [if_neg hk]; rfl
          generalize relWord ra rk rad fba fad fsz fmo fof fbe fst_ fmi = o at CW h1
          obtain ⟨o1, o2⟩ := o
          simp only at CW h1
          have H1 := Lib.hid h1; clear h1
          have HSTH := Lib.hid HST; clear HST
          clear hk
          have HB0 := Lib.hid (below_drew1 (w := wr))
          have kr0 : ∀ x : Calm wr, x.now.cell? ⟨rb, ro + j * 4, none⟩ = some (.int .i64 ra) := fun x => (x.cell _ _ (block_lt_of_cell r0)).trans r0
          have kr1 : ∀ x : Calm wr, x.now.cell? ⟨rb, ro + j * 4 + 1, none⟩ = some (.int .i64 rk) := fun x => (x.cell _ _ (block_lt_of_cell r0)).trans r1
          have kr2 : ∀ x : Calm wr, x.now.cell? ⟨rb, ro + j * 4 + 2, none⟩ = some (.int .i64 rsy) := fun x => (x.cell _ _ (block_lt_of_cell r0)).trans r2
          have kr3 : ∀ x : Calm wr, x.now.cell? ⟨rb, ro + j * 4 + 3, none⟩ = some (.int .i64 rad) := fun x => (x.cell _ _ (block_lt_of_cell r0)).trans r3
          have kf0 : ∀ x : Calm wr, x.now.cell? ⟨fb, fo + j * 8, none⟩ = some (.int .i64 fba) := fun x => (x.cell _ _ (block_lt_of_cell f0)).trans f0
          have kf1 : ∀ x : Calm wr, x.now.cell? ⟨fb, fo + j * 8 + 1, none⟩ = some (.int .i64 fad) := fun x => (x.cell _ _ (block_lt_of_cell f0)).trans f1
          have kf2 : ∀ x : Calm wr, x.now.cell? ⟨fb, fo + j * 8 + 2, none⟩ = some (.int .i64 fsz) := fun x => (x.cell _ _ (block_lt_of_cell f0)).trans f2
          have kf3 : ∀ x : Calm wr, x.now.cell? ⟨fb, fo + j * 8 + 3, none⟩ = some (.int .i64 fmo) := fun x => (x.cell _ _ (block_lt_of_cell f0)).trans f3
          have kf4 : ∀ x : Calm wr, x.now.cell? ⟨fb, fo + j * 8 + 4, none⟩ = some (.int .i64 fof) := fun x => (x.cell _ _ (block_lt_of_cell f0)).trans f4
          have kf5 : ∀ x : Calm wr, x.now.cell? ⟨fb, fo + j * 8 + 5, none⟩ = some (.int .i64 fbe) := fun x => (x.cell _ _ (block_lt_of_cell f0)).trans f5
          have kf6 : ∀ x : Calm wr, x.now.cell? ⟨fb, fo + j * 8 + 6, none⟩ = some (.bool fst_) := fun x => (x.cell _ _ (block_lt_of_cell f0)).trans f6
          have kf7 : ∀ x : Calm wr, x.now.cell? ⟨fb, fo + j * 8 + 7, none⟩ = some (.bool fmi) := fun x => (x.cell _ _ (block_lt_of_cell f0)).trans f7
          go_wp2_with fail
          refine wp_region_calm (by kernel_rfl) (by kernel_rfl) ?_
          repeat (first
            | go_big_quiet_skip
            | (go_big_quiet_want
               go_big_quiet_op
               first
                 | go_big_quiet_on
                 | (apply Exists.intro
                    refine ⟨fun _ => ?_, ?_⟩
                    · (go_at_call 10; exact calm_call (CW.out _))
                    go_big_quiet_on)))
          refine wpQuiet_nil ?_
          intro w5 hw'
          have hb5 : Below wr.heap.size wr w5 := by obtain ⟨x5, rfl⟩ := hw'; exact x5.below
          clear hw'
          have z0 : w5.cell? ⟨rb, ro + j * 4, none⟩ = some (.int .i64 ra) := (hb5.cell (p := ⟨rb, ro + j * 4, none⟩) (block_lt_of_cell r0)).trans r0
          have HP5 : Hid (PSp w5 a (fun k => F k ∨ w.heap.size ≤ k) Lk) := Lib.hid (hP.out.stay hb5)
          have HK5 : Hid (Keeps F w w5) := Lib.hid (hK.out.trans' (Keeps.of_below hb5))
          have HZ5 : Hid (wr.heap.size ≤ w5.heap.size) := Lib.hid hb5.size
          clear hb5 kr0 kr1 kr2 kr3 kf0 kf1 kf2 kf3 kf4 kf5 kf6 kf7 r0 r1 r2 r3 f0 f1 f2 f3 f4 f5 f6 f7 HC hP hK
          by_cases hz : o2 = 0
          · subst hz
            have HST := HSTH.out _ (H1.out.trans (if_neg (by simp)))
            have HOK1 := Lib.hid (hO.out.set (wrap64 (base + ra)) (bytesS o1) 0)
            have C2 := Lib.hid (pokeWord_any a _ Lk hO.out (wrap64 (base + ra)) (wrap64_hi _) o1 w5 HP5.out)
            generalize setS Lk (wrap64 (base + ra)) (bytesS o1) 0 = r at HOK1 HST C2
            have HSTH2 := Lib.hid HST; clear HST HSTH H1 CW
            go_wp2_with fail
            refine (C2.out).mono ?_
            rintro e w2 ⟨rfl, h2, h3⟩
            have H2 : Hid (PSp w2 a (fun k => F k ∨ w.heap.size ≤ k) r.1) := Lib.hid (h2.mono (fun k hk _ => by have := HK5.out.size; rcases hk with hk | hk; exact hk; exact .inr (by omega)))
            have H3 : Hid (Keeps F w w2) := Lib.hid (HK5.out.trans h3 (fun i hi => hi))
            clear h2 h3
            have HST := HSTH2.out
            obtain ⟨q1, q2⟩ := HST
            by_cases hz : r.2 = 0
            · have HN := Lib.hid (q1 hz)
              rw [hz]
              clear q1 q2 hz
              go_wp2
              go_roundw
              case rel => exact ⟨j, r.1, by omega, rfl, Lib.hid H2.out, HOK1, Lib.hid H3.out, HN⟩
              case measure => simp [intOf]
            · have HN := Lib.hid (q2 hz)
              have ez : (r.2 == 0) = false := beq_eq_false_iff_ne.2 hz
              clear q1 q2 hz
              go_wp2
              go_ret
              rw [HN.out]
              exact ⟨rfl, H2.out, H3.out⟩
          · have ez : (o2 == 0) = false := beq_eq_false_iff_ne.2 hz
            have HST := HSTH.out _ (H1.out.trans (if_pos hz))
            have HN := Lib.hid (HST.2 hz)
            clear HST HSTH H1 CW hz
            go_wp2
            go_ret
            rw [HN.out]
            exact ⟨rfl, HP5.out, HK5.out⟩
  · rw [show applyS L base rs fs = (L, 1) from by simp [applyS, hlen]]
    have hne : ¬ ((rs.length : Int) = (fs.length : Int)) := by omega
    have HS := Lib.hid (SetsE.same (err := 1) h (Below.refl _ _))
    clear h hok hrow hfow hfs
    go_enter Try.func16, Try.ntmps16
    go_wp2
    go_ret
    exact HS.out
end Go.Proofs.Ytpononkgeeahdaa
