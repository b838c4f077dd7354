/- awake(), a closed call: true. -/
import Derived.Test.YtalhonodbajndaaDoorKzW4
namespace Go.Kv
set_option linter.unusedVariables false
set_option linter.unusedSimpArgs false
open Go Go.RowKit Go.Proofs
set_option maxRecDepth 100000
noncomputable def F7 : Option Bool := some true
def out7 (v : Bool) : AV := (.d (.v (.bool v)))
theorem f7 (v : Bool) (h : F7 = some v) : PureCalls cfz.P cfz.glob 7 [] (out7 v) := by
  cases (Option.some.inj h)
  exact aw263
end Go.Kv
