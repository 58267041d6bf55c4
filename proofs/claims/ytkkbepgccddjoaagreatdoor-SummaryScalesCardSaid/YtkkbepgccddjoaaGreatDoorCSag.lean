import Derived.Test.YtkkbepgccddjoaaGreatDoorCKys
import Derived.Test.YtkkbepgccddjoaaGreatDoorCSsp
import Derived.Test.YtkkbepgccddjoaaGreatDoorCShr
set_option linter.all false
namespace Go.Proofs.Tryz
open Go.Ab
set_option maxRecDepth 100000
set_option maxHeartbeats 8000000


end Go.Proofs.Tryz
