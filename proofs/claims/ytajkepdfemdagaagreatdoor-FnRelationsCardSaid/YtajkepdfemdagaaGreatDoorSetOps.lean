
/- Sets of tuples: a tuple put in; the set of a relation; a list in new memory. -/
import Derived.Test.YtajkepdfemdagaaGreatDoorCanon
import Derived.Test.YtajkepdfemdagaaGreatDoorSteps
namespace Go.Proofs.YtajkepdfemdagaaGreatDoor
open Go.RowKit
set_option linter.unusedVariables false

theorem mks_take {s m : Int} {L : List (List Int)} {k : Nat} (hk : k < L.length) : (mks s m fun x => decide (x ∈ L.take k) || decide (x = L[k])) = mks s m fun x => decide (x ∈ L.take (k + 1)) := by
  congr 1
  funext x
  rw [List.take_succ_eq_append_getElem hk, Bool.eq_iff_iff, Bool.or_eq_true, decide_eq_true_eq, decide_eq_true_eq, decide_eq_true_eq, List.mem_append, List.mem_singleton]

end Go.Proofs.YtajkepdfemdagaaGreatDoor
