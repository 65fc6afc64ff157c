/-
  Layer 5: MapAt of the program, a way through it.
  Layer 5: MapAt of the program, a way through it.
  Layer 5: MapAt of the program, a way through it.
  Conditions: none. (My own text.)
-/
import Derived.Test.YtmbacegbcccdjaaDoorSp3
import Derived.Deep.RegionWith
namespace Go.Proofs.YtmbacegbcccdjaaDoor
open Go.RowKit Spm
set_option linter.unusedVariables false
set_option linter.unusedSimpArgs false

end Go.Proofs.YtmbacegbcccdjaaDoor

namespace Go.Proofs.YtmbacegbcccdjaaDoor
open Go.RowKit Spm
set_option linter.unusedVariables false
set_option linter.unusedSimpArgs false

end Go.Proofs.YtmbacegbcccdjaaDoor

namespace Go.Proofs.YtmbacegbcccdjaaDoor
open Go.RowKit Spm
set_option linter.unusedVariables false
set_option linter.unusedSimpArgs false

end Go.Proofs.YtmbacegbcccdjaaDoor
