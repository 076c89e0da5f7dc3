
/- FullRel: the program's and the reference's give one function's answers. -/
import Derived.Test.YtajkepdfemdagaaDoorSet
namespace Go.Proofs.YtajkepdfemdagaaDoor
open Go.RowKit
set_option linter.unusedVariables false


theorem allC_congr {s m : Int} {h h' : Nat → Bool} {n : Nat} (hh : ∀ k, k < n → h k = h' k) : allC s m h n = allC s m h' n := by
  unfold allC
  congr 1
  exact List.filter_congr fun k hk => hh k (List.mem_range.1 hk)
/-- a set as a relation of all tuples for which something is so -/
theorem setRel_eq {s m : Int} {hs : List Bool} {p : List Int → Bool} (hh : ∀ k, k < count s m → hs.getD k false = p (digs s m.toNat k)) : setRel s m hs = SrelOf s m p := by
  unfold setRel SrelOf
  rw [allD_eq, allC_congr hh]
def SFullRel (s m : Int) : (Int × List (List Int)) × Int := if inB s 1 4 then if inB m 1 4 then (SrelOf s m fun _ => true, 0) else (noRel, 2) else (noRel, 1)



end Go.Proofs.YtajkepdfemdagaaDoor
