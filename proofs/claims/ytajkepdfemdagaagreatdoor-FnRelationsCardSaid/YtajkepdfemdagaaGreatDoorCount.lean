
/- How many lists of values there are. -/
import Derived.Test.YtajkepdfemdagaaGreatDoorScal
namespace Go.Proofs.YtajkepdfemdagaaGreatDoor
open Go.RowKit
set_option linter.unusedVariables false

def count (s m : Int) : Nat := (powW s m.toNat).toNat
theorem powW_small (s m : Int) (hs : 1 ≤ s) (hs2 : s ≤ 4) (hm : 1 ≤ m) (hm2 : m ≤ 4) : 1 ≤ powW s m.toNat ∧ powW s m.toNat ≤ 256 := by
  have h1 : s = 1 ∨ s = 2 ∨ s = 3 ∨ s = 4 := by omega
  have h2 : m = 1 ∨ m = 2 ∨ m = 3 ∨ m = 4 := by omega
  rcases h1 with rfl | rfl | rfl | rfl <;> rcases h2 with rfl | rfl | rfl | rfl <;> decide +kernel
theorem count_eq (s m : Int) (hs : 1 ≤ s) (hs2 : s ≤ 4) (hm : 1 ≤ m) (hm2 : m ≤ 4) : (count s m : Int) = powW s m.toNat := by
  have := powW_small s m hs hs2 hm hm2
  unfold count
  omega

end Go.Proofs.YtajkepdfemdagaaGreatDoor
