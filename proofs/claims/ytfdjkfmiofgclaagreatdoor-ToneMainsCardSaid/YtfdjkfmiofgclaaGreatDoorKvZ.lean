import Derived.Test.YtfdjkfmiofgclaaGreatDoorKvV
namespace Go.Kv
set_option linter.unusedVariables false
set_option linter.unusedSimpArgs false
set_option linter.unnecessarySimpa false
open Go Go.RowKit
theorem tv_p {α : Type} (x : α) : PC.holds (.prop (x = x)) := (rfl : x = x)
end Go.Kv
