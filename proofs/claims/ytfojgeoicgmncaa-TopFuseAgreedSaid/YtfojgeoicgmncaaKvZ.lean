import Derived.Test.YtfojgeoicgmncaaKvV
namespace Go.Kv
set_option linter.unusedVariables false
set_option linter.unusedSimpArgs false
open Go Go.RowKit
theorem tv_p {α : Type} (x : α) : PC.holds (.prop (x = x)) := (rfl : x = x)
end Go.Kv
