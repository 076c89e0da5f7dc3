
/- HasTuple, IsPartOf: the program's and the reference's give one function's answers. -/
import Derived.Test.YtemhmpnnccmlmaaHas
import Derived.Test.YtemhmpnnccmlmaaFuncII
namespace Go.Proofs.Ytemhmpnnccmlmaa
open Go.RowKit
set_option linter.unusedVariables false


end Go.Proofs.Ytemhmpnnccmlmaa
