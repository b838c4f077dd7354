import Derived.Test.YtdelimpnnpifpaaGreatDoorKvV
set_option linter.all false
namespace Go.Kv
open Go Go.RowKit
theorem Qr {α:Type} (x:α):PC.holds (.prop (x=x)):=(rfl:x=x)
end Go.Kv
