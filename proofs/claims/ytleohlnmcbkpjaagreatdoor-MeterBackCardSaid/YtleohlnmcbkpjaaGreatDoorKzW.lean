import Derived.Test.YtleohlnmcbkpjaaGreatDoorKzW4
namespace Go.Kv
set_option linter.all false
open Go Go.RowKit Go.Proofs
set_option maxRecDepth 100000
noncomputable def F5 : Option Bool := some true
def out5 (v : Bool) : AV := (.d (.v (.bool v)))
theorem f5 (v : Bool) (h : F5 = some v) : PureCalls cfz.P cfz.glob 5 [] (out5 v) := by
  cases (Option.some.inj h)
  exact aw264
end Go.Kv
