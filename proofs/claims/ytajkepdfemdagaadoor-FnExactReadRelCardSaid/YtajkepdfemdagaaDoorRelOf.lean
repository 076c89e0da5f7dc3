
/- The relation of all tuples for which something is so: the program's relOf, with what its function value says of each tuple. -/
import Derived.Test.YtajkepdfemdagaaDoorRelT
import Derived.Test.YtajkepdfemdagaaDoorScal
import Derived.Test.YtajkepdfemdagaaDoorDigs
import Derived.Test.YtajkepdfemdagaaDoorCount
namespace Go.Proofs.YtajkepdfemdagaaDoor
open Go.RowKit
set_option linter.unusedVariables false

def allD (s m : Int) (p : List Int → Bool) (n : Nat) : List (List Int) := ((List.range n).map fun k : Nat => digs s m.toNat k).filter p
theorem allD_yes {s m : Int} {p : List Int → Bool} {k : Nat} (h : p (digs s m.toNat k) = true) : allD s m p (k + 1) = allD s m p k ++ [digs s m.toNat k] := by simp [allD, List.range_succ, List.filter_append, h]
theorem allD_no {s m : Int} {p : List Int → Bool} {k : Nat} (h : p (digs s m.toNat k) = false) : allD s m p (k + 1) = allD s m p k := by simp [allD, List.range_succ, List.filter_append, h]
theorem allD_length (s m : Int) (p : List Int → Bool) (n : Nat) : (allD s m p n).length ≤ n := by
  unfold allD
  exact Nat.le_trans (List.length_filter_le _ _) (by simp)
def SrelOf (s m : Int) (p : List Int → Bool) : Int × List (List Int) := (m, allD s m p (count s m))
theorem mkII_allD (s m : Int) (p : List Int → Bool) (n : Nat) : mkII (allD s m p n) ≤ n * m.toNat := by
  induction n with
  | zero => simp [allD, mkII]
  | succ n ih =>
    cases h : p (digs s m.toNat n) with
    | true =>
      rw [allD_yes h]
      have : ∀ (a b : List (List Int)), mkII (a ++ b) = mkII a + mkII b := by
        intro a b
        induction a with
        | nil => simp [mkII]
        | cons x xs ihx => simp only [List.cons_append, mkII, ihx]; omega
      rw [this]
      simp only [mkII, digs_length]
      rw [Nat.add_mul]
      omega
    | false =>
      rw [allD_no h, Nat.add_mul]
      omega
theorem mkRel_SrelOf {s m : Int} {p : List Int → Bool} (h1 : 1 ≤ s) (h2 : s ≤ 4) (h3 : 1 ≤ m) (h4 : m ≤ 4) : mkRel (SrelOf s m p) ≤ 1048576 := by
  have k1 := mkII_allD s m p (count s m)
  have k2 := powW_small s m h1 h2 h3 h4
  have k3 := count_eq s m h1 h2 h3 h4
  have k4 : count s m * m.toNat ≤ 256 * 4 := Nat.mul_le_mul (by omega) (by omega)
  show mkII (allD s m p (count s m)) ≤ _
  omega

end Go.Proofs.YtajkepdfemdagaaDoor
