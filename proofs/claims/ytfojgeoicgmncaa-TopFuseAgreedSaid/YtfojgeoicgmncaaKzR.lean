import Derived.Test.YtfojgeoicgmncaaKzA
import Derived.Test.YtfojgeoicgmncaaKvY
import Derived.Test.YtfojgeoicgmncaaRows
namespace Go.Kv
set_option linter.unusedVariables false
set_option linter.unusedSimpArgs false
open Go Go.RowKit Go.ChangeShapes Go.WideShapes Go.ChangeAt Go.Proofs Go.Proofs.Ytfojgeoicgmncaa
set_option maxRecDepth 100000
theorem own : ownKnob Try.prog.godebug = none := by kernel_rfl
theorem laidOut : laidOutB Try.prog = true := by kernel_rfl
theorem glob_ok (W : World) : GlobOk cfz.glob W (phiOf W) := by
  intro g cs hc
  simp [cfz] at hc
end Go.Kv
