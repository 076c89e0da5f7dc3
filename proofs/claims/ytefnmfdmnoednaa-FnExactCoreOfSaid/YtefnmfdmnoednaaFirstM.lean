
/- FirstMap: the program's and the reference's give one function's answers. -/
import Derived.Test.YtefnmfdmnoednaaMaps
import Derived.Test.YtefnmfdmnoednaaIRes
namespace Go.Proofs.Ytefnmfdmnoednaa
open Go.RowKit
set_option linter.unusedVariables false

def mapK (t u : TmD) (k : Nat) : Bool := isMapS t u (digs u.1 t.1.toNat k)
def foundMap (t u : TmD) : Option Nat := (List.range (count u.1 t.1)).find? (mapK t u)
def SFirstMap (t u : TmD) : List Int × Int := if SMapFault t u = 0 then match foundMap t u with | some k => (digs u.1 t.1.toNat k, 0) | none => ([], 6) else ([], SMapFault t u)
theorem fmap_fault {t u : TmD} (h : ¬ SMapFault t u = 0) : SFirstMap t u = ([], SMapFault t u) := by unfold SFirstMap; rw [if_neg h]
theorem fmap_none {t u : TmD} (h : SMapFault t u = 0) (h2 : foundMap t u = none) : SFirstMap t u = ([], 6) := by unfold SFirstMap; rw [if_pos h, h2]
theorem fmap_some {t u : TmD} {k : Nat} (h : SMapFault t u = 0) (h2 : foundMap t u = some k) : SFirstMap t u = (digs u.1 t.1.toNat k, 0) := by unfold SFirstMap; rw [if_pos h, h2]
theorem map_vals {t u : TmD} (ht : SValidTemplate t = true) (hu : SValidTemplate u = true) (k : Nat) : vals u.1 (digs u.1 t.1.toNat k) t.1 = true := by
  have h1 := valid_tm_size ht
  have h2 := valid_tm_size hu
  exact vals_iff.2 ⟨by rw [digs_length]; omega, fun a ha => digs_val u.1 h2.1 _ k (by omega) a ha⟩

end Go.Proofs.Ytefnmfdmnoednaa
