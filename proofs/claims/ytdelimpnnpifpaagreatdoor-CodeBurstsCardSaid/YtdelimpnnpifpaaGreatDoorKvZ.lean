import Derived.Test.YtdelimpnnpifpaaGreatDoorKvV
namespace Go.Kv
set_option linter.all false
open Go Go.RowKit
theorem tv_p {α : Type} (x : α) : PC.holds (.prop (x = x)) := (rfl : x = x)
end Go.Kv
