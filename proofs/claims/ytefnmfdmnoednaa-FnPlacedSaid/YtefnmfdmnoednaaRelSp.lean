
/- OppositeRel, MeetRels, JoinRels: the reference's functions. -/
import Derived.Test.YtefnmfdmnoednaaRelFns
import Derived.Test.YtefnmfdmnoednaaAcc
namespace Go.Proofs.Ytefnmfdmnoednaa
open Go.RowKit
set_option linter.unusedVariables false

theorem filter_take_yes {α : Type} {p : α → Bool} {l : List α} {k : Nat} (hk : k < l.length) (h : p l[k] = true) : (l.take (k + 1)).filter p = (l.take k).filter p ++ [l[k]] := by
  rw [List.take_succ_eq_append_getElem hk, List.filter_append]; simp [h]
theorem filter_take_no {α : Type} {p : α → Bool} {l : List α} {k : Nat} (hk : k < l.length) (h : p l[k] = false) : (l.take (k + 1)).filter p = (l.take k).filter p := by
  rw [List.take_succ_eq_append_getElem hk, List.filter_append]; simp [h]
theorem filter_take_length {α : Type} (p : α → Bool) (l : List α) (k : Nat) : ((l.take k).filter p).length ≤ l.length := Nat.le_trans (List.length_filter_le _ _) (by rw [List.length_take]; exact Nat.min_le_right _ _)

theorem mks_or_take {s m : Int} {p : List Int → Bool} {L : List (List Int)} {k : Nat} (hk : k < L.length) : (mks s m fun x => (p x || decide (x ∈ L.take k)) || decide (x = L[k])) = mks s m fun x => p x || decide (x ∈ L.take (k + 1)) := by
  congr 1
  funext x
  rw [Bool.or_assoc]
  congr 1
  rw [List.take_succ_eq_append_getElem hk, Bool.eq_iff_iff, Bool.or_eq_true, decide_eq_true_eq, decide_eq_true_eq, decide_eq_true_eq, List.mem_append, List.mem_singleton]

/-- the marks turned up to a place -/
def flipTo (M : List Bool) (k : Nat) : List Bool := (M.take k).map (!·) ++ M.drop k
theorem flipTo_length (M : List Bool) (k : Nat) (hk : k ≤ M.length) : (flipTo M k).length = M.length := by simp [flipTo]; omega
theorem flipTo_get (M : List Bool) (k : Nat) (hk : k < M.length) (h : k < (flipTo M k).length) : (flipTo M k)[k] = M[k] := by
  have e : (flipTo M k)[k]? = some M[k] := by
    unfold flipTo
    rw [List.getElem?_append_right (by simp; omega)]
    simp [Nat.min_eq_left (Nat.le_of_lt hk)]
  rw [List.getElem?_eq_getElem h] at e
  exact Option.some.inj e
theorem flipTo_set (M : List Bool) (k : Nat) (hk : k < M.length) : (flipTo M k).set k (!M[k]) = flipTo M (k + 1) := by
  unfold flipTo
  rw [List.set_append_right _ _ (by simp; omega), List.take_succ_eq_append_getElem hk, List.map_append, List.drop_eq_getElem_cons hk]
  simp [Nat.min_eq_left (Nat.le_of_lt hk)]
  rw [List.drop_eq_getElem_cons hk]
  rfl
end Go.Proofs.Ytefnmfdmnoednaa
