
/- FixPlace: the program's and the reference's give one function's answers. -/
import Derived.Test.YtemhmpnnccmlmaaRelSp
namespace Go.Proofs.Ytemhmpnnccmlmaa
open Go.RowKit
set_option linter.unusedVariables false

def fixP (r : Int × List (List Int)) (p x : Int) (t : List Int) : Bool := decide (t.getD p.toNat 0 = x) && hasT r t
def SFixPlace (s : Int) (r : Int × List (List Int)) (p x : Int) : (Int × List (List Int)) × Int :=
  if SValidRel s r then if inB p 0 (r.1 - 1) && inB x 0 (s - 1) then (SrelOf s r.1 (fixP r p x), 0) else (noRel, 2) else (noRel, 1)
theorem fix_1 {s : Int} {r : Int × List (List Int)} {p x : Int} (h : SValidRel s r = false) : SFixPlace s r p x = (noRel, 1) := by unfold SFixPlace; rw [h]; rfl
theorem fix_2 {s : Int} {r : Int × List (List Int)} {p x : Int} (h : SValidRel s r = true) (h2 : (inB p 0 (r.1 - 1) && inB x 0 (s - 1)) = false) : SFixPlace s r p x = (noRel, 2) := by unfold SFixPlace; rw [h, h2]; rfl
theorem fix_0 {s : Int} {r : Int × List (List Int)} {p x : Int} (h : SValidRel s r = true) (h2 : inB p 0 (r.1 - 1) = true) (h3 : inB x 0 (s - 1) = true) : SFixPlace s r p x = (SrelOf s r.1 (fixP r p x), 0) := by unfold SFixPlace; rw [h, h2, h3]; rfl

end Go.Proofs.Ytemhmpnnccmlmaa
