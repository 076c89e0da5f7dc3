
/- The list of digits of a number; the number of a list. -/
import Derived.Test.YtajkepdfemdagaaDoorVals
namespace Go.Proofs.YtajkepdfemdagaaDoor
open Go.RowKit
set_option linter.unusedVariables false

/-- so many digits of n, the last one last -/
def digs (s : Int) : Nat → Int → List Int
  | 0, _ => []
  | k + 1, n => digs s k (n / s) ++ [n % s]
theorem digs_length (s : Int) : ∀ k n, (digs s k n).length = k
  | 0, _ => rfl
  | k + 1, n => by simp [digs, digs_length s k]
theorem digs_val (s : Int) (hs : 1 ≤ s) : ∀ k n, 0 ≤ n → ∀ a ∈ digs s k n, 0 ≤ a ∧ a < s
  | 0, _, _, a, ha => by simp [digs] at ha
  | k + 1, n, hn, a, ha => by
    simp only [digs, List.mem_append, List.mem_singleton] at ha
    rcases ha with ha | rfl
    · exact digs_val s hs k (n / s) (Int.ediv_nonneg hn (by omega)) a ha
    · exact ⟨Int.emod_nonneg _ (by omega), Int.emod_lt_of_pos _ (by omega)⟩
/-- the number of a list -/
def code (s : Int) (l : List Int) : Int := l.foldl (fun n a => n * s + a) 0
theorem code_snoc (s : Int) (l : List Int) (a : Int) : code s (l ++ [a]) = code s l * s + a := by simp [code]

theorem fill_down {l : List Value} {z x : Value} {k : Nat} :
    (List.replicate (k + 1) z ++ l).set k x = List.replicate k z ++ (x :: l) := by
  rw [List.set_append_left _ _ (by simp), List.replicate_succ', List.set_append_right _ _ (by simp)]
  simp

end Go.Proofs.YtajkepdfemdagaaDoor
