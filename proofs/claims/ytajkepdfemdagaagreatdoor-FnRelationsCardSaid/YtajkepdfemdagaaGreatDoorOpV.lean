
/- Which operations are valid: the program's answer and the reference's are one function's. -/
import Derived.Test.YtajkepdfemdagaaGreatDoorOpT
import Derived.Test.YtajkepdfemdagaaGreatDoorVals
namespace Go.Proofs.YtajkepdfemdagaaGreatDoor
open Go.RowKit
set_option linter.unusedVariables false

def SValidOp (s : Int) (f : Int × List Int) : Bool := inB s 1 4 && (inB f.1 1 3 && vals s f.2 (powW s f.1.toNat))
theorem SValidOp_size {s : Int} {f : Int × List Int} (h : inB s 1 4 = false) : SValidOp s f = false := by unfold SValidOp; rw [h]; rfl
theorem SValidOp_arity {s : Int} {f : Int × List Int} (h : inB f.1 1 3 = false) : SValidOp s f = false := by unfold SValidOp; rw [h]; simp
theorem SValidOp_rest {s : Int} {f : Int × List Int} (h : inB s 1 4 = true) (h2 : inB f.1 1 3 = true) : SValidOp s f = vals s f.2 (powW s f.1.toNat) := by unfold SValidOp; rw [h, h2]; simp




end Go.Proofs.YtajkepdfemdagaaGreatDoor
