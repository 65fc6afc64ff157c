/-
  Layer 6: what an instruction does: the program's act, loads and a call.
  Conditions: none. (My own text.)
-/
import Derived.Test.YtmbacegbcccdjaaDoorCpc
import Derived.StillTailTactics
import Derived.Deep.RegionLaw
import Derived.Deep.RegionWith
import Derived.Deep.RegionHeld3
namespace Go.Proofs.YtmbacegbcccdjaaDoor
open Go.RowKit Spm
set_option linter.unusedVariables false
set_option linter.unusedSimpArgs false

section
variable {B : Nat} {w wr w' : World} {g s : Nat} {cx : Ctx} {L : List Rg} {Y : Res}
def stE (q : Int) : Evt := if q = 0 then ev0 else trapV q
def calC (cx : Ctx) (nx to_ q : Int) : Ctx := if q = 0 then { cx with pc := to_, r := upd cx.r 15 (wrap64 (cx.r 15 - 8)) } else { cx with pc := nx }

end
end Go.Proofs.YtmbacegbcccdjaaDoor
