import Derived.Test.YtjpmpeknnfhccaaGreatDoorKzW4
namespace Go.Kv
set_option linter.unusedVariables false
set_option linter.unusedSimpArgs false
open Go Go.RowKit Go.Proofs
set_option maxRecDepth 100000
noncomputable def F6 : Option Bool := some true
def out6 (v : Bool) : AV := (.d (.v (.bool v)))
theorem f6 (v : Bool) (h : F6 = some v) : PureCalls cfz.P cfz.glob 6 [] (out6 v) := by
  cases (Option.some.inj h)
  exact aw263
end Go.Kv
