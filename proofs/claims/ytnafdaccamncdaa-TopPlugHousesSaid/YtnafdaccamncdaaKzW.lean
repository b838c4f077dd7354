/- awake(), a closed call: true. -/
import Derived.Test.YtnafdaccamncdaaKzW4
namespace Go.Kv
set_option linter.unusedVariables false
set_option linter.unusedSimpArgs false
open Go Go.RowKit Go.Proofs
set_option maxRecDepth 100000
noncomputable def F5 : Option Bool := some true
def out5 (v : Bool) : AV := (.d (.v (.bool v)))
theorem f5 (v : Bool) (h : F5 = some v) : PureCalls cfz.P cfz.glob 5 [] (out5 v) := by
  cases (Option.some.inj h)
  exact aw59
end Go.Kv
