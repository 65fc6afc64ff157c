/-
  Layer 6: what an instruction does: the program's act (first part).
  Conditions: none. (My own text.)
-/
import Derived.Test.YtmbacegbcccdjaaDoorCpa
import Derived.StillTailTactics
import Derived.Deep.RegionLaw
import Derived.Deep.RegionWith
import Derived.Deep.RegionHeld3
namespace Go.Proofs.YtmbacegbcccdjaaDoor
open Go.RowKit Spm
set_option linter.unusedVariables false
set_option linter.unusedSimpArgs false

section
variable {B : Nat} {w wr w' : World} {g s : Nat} {cx : Ctx} {L : List Rg} {Y : Res}
theorem below_drw {B : Nat} {w : World} : Below B w w.drew := ⟨rfl, rfl, rfl, Nat.le_refl _, fun _ _ => rfl⟩

end
end Go.Proofs.YtmbacegbcccdjaaDoor
