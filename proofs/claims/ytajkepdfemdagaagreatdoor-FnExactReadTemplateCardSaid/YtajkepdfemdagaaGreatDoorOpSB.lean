
/- Rows of cells made two by two. -/
import Derived.Test.YtajkepdfemdagaaGreatDoorLists
import Derived.Test.YtajkepdfemdagaaGreatDoorInts
namespace Go.Proofs.YtajkepdfemdagaaGreatDoor
open Go.RowKit
set_option linter.unusedVariables false

theorem len_two' {α : Type} : ∀ {l : List α}, l.length = 2 → ∃ x y, l = [x, y]
  | [x, y], _ => ⟨x, y, rfl⟩
theorem madeCells_two (a b : Value) : ∀ n : Nat, (madeCells #[a, b] (n * 2)).toList = (List.replicate n [a, b]).flatten := by
  intro n
  unfold madeCells
  rw [Array.toList_map, Array.toList_range]
  induction n with
  | zero => rfl
  | succ n ih =>
    rw [show (n + 1) * 2 = n * 2 + 1 + 1 by omega, List.range_succ, List.range_succ, List.map_append, List.map_append, ih, List.replicate_succ', List.flatten_append]
    have h1 : n * 2 % (#[a, b] : Array Value).size = 0 := by simp
    have h2 : (n * 2 + 1) % (#[a, b] : Array Value).size = 1 := by simp
    simp only [List.map_cons, List.map_nil, h1, h2, List.flatten_cons, List.flatten_nil, List.append_nil, List.append_assoc]
    rfl

end Go.Proofs.YtajkepdfemdagaaGreatDoor
