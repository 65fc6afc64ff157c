/-
  Layer 6: what an instruction does: the program's jz, load, push.
  Conditions: none. (My own text.)
-/
import Derived.Test.YtmbacegbcccdjaaDoorCpb
import Derived.StillTailTactics
import Derived.Deep.RegionLaw
import Derived.Deep.RegionWith
import Derived.Deep.RegionHeld3
namespace Go.Proofs.YtmbacegbcccdjaaDoor
open Go.RowKit Spm
set_option linter.unusedVariables false
set_option linter.unusedSimpArgs false

section
variable {B : Nat} {w wr w' : World} {g s : Nat} {cx : Ctx} {L : List Rg} {Y : Res}
def ldC (cx : Ctx) (a : Nat) (q : Int × Int) : Ctx := if q.2 = 0 then { cx with r := upd cx.r a q.1 } else cx
def ldE (e : Evt) (q : Int × Int) : Evt := if q.2 = 0 then e else trapV q.2
def sub8 (x : Int) : Int := wrap64 (x - 8)
theorem wrap_hi (x : Int) : wrap64 x ≤ 9223372036854775807 := by unfold wrap64; omega
theorem wrap_lo (x : Int) : -9223372036854775808 ≤ wrap64 x := by unfold wrap64; omega
end
end Go.Proofs.YtmbacegbcccdjaaDoor
