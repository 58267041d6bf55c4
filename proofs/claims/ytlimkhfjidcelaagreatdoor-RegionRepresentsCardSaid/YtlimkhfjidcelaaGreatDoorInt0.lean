/- Rows of numbers, as data. -/
import Derived.Test.YtlimkhfjidcelaaGreatDoorVal0
set_option linter.all false
namespace Go.Proofs.Tryz
open Go.Ab
def ints (l : List Int) : List (List D) := l.map fun n => [.int .i64 n]
end Go.Proofs.Tryz
