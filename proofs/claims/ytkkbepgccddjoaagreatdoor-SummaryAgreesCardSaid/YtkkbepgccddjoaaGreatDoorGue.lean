import Derived.Test.YtkkbepgccddjoaaGreatDoorAGud
import Derived.Test.YtkkbepgccddjoaaGreatDoorAbB
set_option linter.all false
namespace Go.Proofs.Tryz
open Go.Ab
set_option maxRecDepth 100000
set_option maxHeartbeats 8000000
theorem gd_get {f:Nat→List AV} {N j:Nat} (h:j<N):∀ hh,(seqF f N)[j]'hh=f j:=fun hh=>by
 have:=seqF_get f N j
 rw [List.getElem?_eq_getElem hh,if_pos h] at this
 exact Option.some.inj this
end Go.Proofs.Tryz
