
/- DependsOn: the program's and the reference's give one function's answers. -/
import Derived.Test.YtefnmfdmnoednaaAll
import Derived.Test.YtefnmfdmnoednaaIRes
namespace Go.Proofs.Ytefnmfdmnoednaa
open Go.RowKit
set_option linter.unusedVariables false

def depF (s : Int) (f : Int × List Int) (p : Nat) (l : List Int) : Bool := decide (apply s f (l.set p 0) = apply s f l)
def depList (s : Int) (f : Int × List Int) (k : Nat) : List Int := ((List.range k).filter fun p => !(allL s f.1 (depF s f p))).map fun p : Nat => (p : Int)
theorem depList_length (s : Int) (f : Int × List Int) (k : Nat) : (depList s f k).length ≤ k := by
  unfold depList
  rw [List.length_map]
  exact Nat.le_trans (List.length_filter_le _ _) (by simp)
theorem depList_yes {s : Int} {f : Int × List Int} {k : Nat} (h : allL s f.1 (depF s f k) = false) : depList s f (k + 1) = depList s f k ++ [(k : Int)] := by
  unfold depList
  rw [List.range_succ, List.filter_append, List.map_append]
  simp [h]
theorem depList_no {s : Int} {f : Int × List Int} {k : Nat} (h : allL s f.1 (depF s f k) = true) : depList s f (k + 1) = depList s f k := by
  unfold depList
  rw [List.range_succ, List.filter_append, List.map_append]
  simp [h]
def SDependsOn (s : Int) (f : Int × List Int) : List Int × Int := if SValidOp s f then (depList s f f.1.toNat, 0) else ([], 1)

theorem set_vals {s : Int} {l : List Int} {p : Nat} (hs : 1 ≤ s) (hv : ∀ a ∈ l, 0 ≤ a ∧ a < s) : ∀ a ∈ l.set p 0, 0 ≤ a ∧ a < s := by
  intro a ha
  rcases List.mem_or_eq_of_mem_set ha with h | rfl
  · exact hv a h
  · omega
theorem valid_count {s : Int} {f : Int × List Int} (hf : SValidOp s f = true) : count s f.1 = f.2.length := by
  obtain ⟨h1, h2, h3, _⟩ := valid_iff.1 hf
  have := count_eq s f.1 h1.1 h1.2 h2.1 (by omega)
  omega
theorem apply_digs {s : Int} {f : Int × List Int} (hf : SValidOp s f = true) {n : Nat} (hn : n < f.2.length) : apply s f (digs s f.1.toNat n) = f.2[n] := by
  obtain ⟨h1, h2, h3, _⟩ := valid_iff.1 hf
  rw [powW_eq s _ h1.1 h1.2 (by omega)] at h3
  unfold apply
  rw [digs_code s h1.1 _ _ (by omega) (by omega), Int.toNat_natCast, List.getD_eq_getElem?_getD, List.getElem?_eq_getElem hn]
  rfl


end Go.Proofs.Ytefnmfdmnoednaa
