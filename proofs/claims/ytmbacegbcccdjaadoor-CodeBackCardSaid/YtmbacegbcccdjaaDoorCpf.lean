/-
  Layer 6: what an instruction does: the program's act, callr and ret.
  Conditions: none. (My own text.)
-/
import Derived.Test.YtmbacegbcccdjaaDoorCpd
import Derived.StillTailTactics
import Derived.Deep.RegionLaw
import Derived.Deep.RegionWith
import Derived.Deep.RegionHeld3
namespace Go.Proofs.YtmbacegbcccdjaaDoor
open Go.RowKit Spm
set_option linter.unusedVariables false
set_option linter.unusedSimpArgs false

section
variable {B : Nat} {w wr w' : World} {g s : Nat} {cx : Ctx} {L : List Rg} {Y : Res}
def retC (cx : Ctx) (nx : Int) (q : Int × Int) : Ctx := if q.2 = 0 then { cx with pc := q.1, r := upd cx.r 15 (wrap64 (cx.r 15 + 8)) } else { cx with pc := nx }

end
end Go.Proofs.YtmbacegbcccdjaaDoor
