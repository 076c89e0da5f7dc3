
/- OppositeRel, MeetRels, JoinRels, FixPlace, PairRels, ComposeRels: what they give, and the program's functions. -/
import Derived.Test.YtefnmfdmnoednaaSetOps
import Derived.Test.YtefnmfdmnoednaaIsPart
namespace Go.Proofs.Ytefnmfdmnoednaa
open Go.RowKit
set_option linter.unusedVariables false

def SOppositeRel (s : Int) (r : Int × List (List Int)) : (Int × List (List Int)) × Int := if SValidRel s r then (SrelOf s r.1 fun t => !hasT r t, 0) else (noRel, 1)
def SMeetRels (s : Int) (r q : Int × List (List Int)) : (Int × List (List Int)) × Int := if twoFault s r q = 0 then (SrelOf s r.1 fun t => hasT r t && hasT q t, 0) else (noRel, twoFault s r q)
def SJoinRels (s : Int) (r q : Int × List (List Int)) : (Int × List (List Int)) × Int := if twoFault s r q = 0 then (SrelOf s r.1 fun t => hasT r t || hasT q t, 0) else (noRel, twoFault s r q)
theorem okRel (w : World) (c : Value) {s m : Int} {p : List Int → Bool} {v : Value} (h1 : v = .bool (p (digs s m.toNat 0))) : v = .bool (p (digs s m.toNat 0)) := h1


end Go.Proofs.Ytefnmfdmnoednaa
