import Derived.Test.YthpmjipkofbeiaaGreatDoorTSWow
set_option linter.all false
namespace Go.Proofs.Tryz
open Go.Ab
set_option maxRecDepth 100000
set_option maxHeartbeats 4000000
end Go.Proofs.Tryz
