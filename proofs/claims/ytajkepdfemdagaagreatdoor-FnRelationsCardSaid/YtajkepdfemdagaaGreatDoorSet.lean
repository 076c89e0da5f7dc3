
/- The reference's sets of tuples, told by their numbers. -/
import Derived.Test.YtajkepdfemdagaaGreatDoorRelLoop
import Derived.Test.YtajkepdfemdagaaGreatDoorCode
namespace Go.Proofs.YtajkepdfemdagaaGreatDoor
open Go.RowKit
set_option linter.unusedVariables false

def setRel (s m : Int) (hs : List Bool) : Int × List (List Int) := (m, allC s m (fun k => hs.getD k false) (count s m))

end Go.Proofs.YtajkepdfemdagaaGreatDoor
