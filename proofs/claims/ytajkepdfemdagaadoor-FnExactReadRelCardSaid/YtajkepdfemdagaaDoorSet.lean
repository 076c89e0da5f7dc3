
/- The reference's sets of tuples, told by their numbers. -/
import Derived.Test.YtajkepdfemdagaaDoorRelLoop
import Derived.Test.YtajkepdfemdagaaDoorCode
namespace Go.Proofs.YtajkepdfemdagaaDoor
open Go.RowKit
set_option linter.unusedVariables false

def setRel (s m : Int) (hs : List Bool) : Int × List (List Int) := (m, allC s m (fun k => hs.getD k false) (count s m))

end Go.Proofs.YtajkepdfemdagaaDoor
