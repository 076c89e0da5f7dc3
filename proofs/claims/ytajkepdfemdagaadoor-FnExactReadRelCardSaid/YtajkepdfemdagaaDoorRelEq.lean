
/- SameRel: the program's and the reference's give one function's answers. -/
import Derived.Test.YtajkepdfemdagaaDoorRelT
namespace Go.Proofs.YtajkepdfemdagaaDoor
open Go.RowKit
set_option linter.unusedVariables false

def SSameRel (r s : Int × List (List Int)) : Bool := decide (r = s)


end Go.Proofs.YtajkepdfemdagaaDoor
