/- awake(), a closed call: true. -/
import Derived.Test.YtpmlobofkkhhaaaKzW4
namespace Go.Kv
set_option linter.unusedVariables false
set_option linter.unusedSimpArgs false
open Go Go.RowKit Go.Proofs
set_option maxRecDepth 100000
noncomputable def F4 : Option Bool := some true
def out4 (v : Bool) : AV := (.d (.v (.bool v)))
theorem f4 (v : Bool) (h : F4 = some v) : PureCalls cfz.P cfz.glob 4 [] (out4 v) := by
  cases (Option.some.inj h)
  exact aw59
end Go.Kv
