/-
  An element of a slice, its address, in a drawn region taken by hand.
  Conditions: none. (My own text.)
-/
import Derived.Test.YtmbacegbcccdjaaDoorPk
namespace Go.Proofs.YtmbacegbcccdjaaDoor
open Go.RowKit
set_option linter.unusedVariables false
set_option linter.unusedSimpArgs false
section
variable {P : Program} {ops : Array Oper} {S : World → Prop} {o : Oper} {a : Go.Act} {Q : Exit → Go.Act → World → Prop}
theorem yields_index_sl {t e : TypeId} (hgd : o.guard = none) (x ix : Operand) (ho : o.op = .indexAddr t x ix) (g k len cap j s : Nat) (hx : a.eval x = .slice (some ⟨g, k, none⟩) len cap) (hi : a.eval ix = .int .i64 j)
    (hu : P.underlying t = some (.slice e)) (hs : (P.info? e).map (·.size) = some s) (hj : j < len) : YieldsIf P ops S o (.pointer (some ⟨g, k + j * s, none⟩)) a := .inl ⟨by simp [Region.wanted, hgd], fun w _ => by
  have he : P.elem t = e := by simp [Program.elem, hu]
  have hz : (sizeOf e).run P w = .ok s w := by
    cases hq : P.info? e with
    | none => simp [hq] at hs
    | some i =>
      have : i.size = s := by simpa [hq] using hs
      simp [sizeOf, typeInfo, hq, this]
  have h2 : (0 : Int) ≤ (j : Int) ∧ (j : Int) < (len : Int) := by omega
  unfold execOp
  simp only [ho, hx, hi, Sem.run_bind]
  rw [run_indexAt_slice w t ⟨g, k, none⟩ len cap .i64 j (by rw [he]; exact hu), he, if_pos h2, hz]
  simp [Addr.add]⟩
end
end Go.Proofs.YtmbacegbcccdjaaDoor
