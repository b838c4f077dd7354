/- awake(), a closed call: true. -/
import Derived.Test.YtalhonodbajndaaGreatDoorKzW4
namespace Go.Kv
set_option linter.unusedVariables false
set_option linter.unusedSimpArgs false
open Go Go.RowKit Go.Proofs
set_option maxRecDepth 100000
noncomputable def F12 : Option Bool := some true
def out12 (v : Bool) : AV := (.d (.v (.bool v)))
theorem f12 (v : Bool) (h : F12 = some v) : PureCalls cfz.P cfz.glob 12 [] (out12 v) := by
  cases (Option.some.inj h)
  exact aw263
end Go.Kv
