import Derived.Test.YtkkbepgccddjoaaGreatDoorLog
import Derived.Test.YtkkbepgccddjoaaGreatDoorAShy
set_option linter.all false
namespace Go.Proofs.Tryz
open Go.Ab
@[simp] theorem wrap0:IntKind.i64.wrap 0=0:=by decide
end Go.Proofs.Tryz
