
/- The operation that gives each list a value: the program's opOf, with what its function value says of each list. -/
import Derived.Test.YtemhmpnnccmlmaaOpT
import Derived.Test.YtemhmpnnccmlmaaDigs
import Derived.Test.YtemhmpnnccmlmaaCount
namespace Go.Proofs.Ytemhmpnnccmlmaa
open Go.RowKit
set_option linter.unusedVariables false

/-- how many lists there are, and the operation of a function of lists -/
def tableOf (s m : Int) (g : List Int → Int) (n : Nat) : List Int := (List.range n).map fun k : Nat => g (digs s m.toNat k)
theorem tableOf_length (s m : Int) (g : List Int → Int) (n : Nat) : (tableOf s m g n).length = n := by simp [tableOf]
theorem tableOf_succ (s m : Int) (g : List Int → Int) (n : Nat) : tableOf s m g (n + 1) = tableOf s m g n ++ [g (digs s m.toNat n)] := by simp [tableOf, List.range_succ]
def SopOf (s m : Int) (g : List Int → Int) : Int × List Int := (m, tableOf s m g (count s m))

end Go.Proofs.Ytemhmpnnccmlmaa
