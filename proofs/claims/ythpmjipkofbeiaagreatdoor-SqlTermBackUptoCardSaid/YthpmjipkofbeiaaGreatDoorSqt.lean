import Derived.Test.YthpmjipkofbeiaaGreatDoorTFdx
set_option linter.all false
namespace Go.Proofs.Tryz
open Go.Ab
set_option maxHeartbeats 1000000
end Go.Proofs.Tryz
