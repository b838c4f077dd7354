import Derived.Test.YtleohlnmcbkpjaaGreatDoorKzR
namespace Go.Kv
set_option linter.all false
open Go Go.RowKit
end Go.Kv
