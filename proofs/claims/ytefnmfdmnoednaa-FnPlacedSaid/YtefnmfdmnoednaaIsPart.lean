
/- IsPartOf: the program's and the reference's give one function's answers. -/
import Derived.Test.YtefnmfdmnoednaaPart
namespace Go.Proofs.Ytefnmfdmnoednaa
open Go.RowKit
set_option linter.unusedVariables false

theorem twoFault_zero {s : Int} {r q : Int × List (List Int)} (h : twoFault s r q = 0) : SValidRel s r = true ∧ SValidRel s q = true ∧ r.1 = q.1 := by
  unfold twoFault at h
  cases h1 : SValidRel s r <;> cases h2 : SValidRel s q <;> rw [h1, h2] at h
  · simp at h
  · simp at h
  · simp at h
  · by_cases h3 : r.1 = q.1
    · exact ⟨rfl, rfl, h3⟩
    · simp [h3] at h


end Go.Proofs.Ytefnmfdmnoednaa
