
/- Small laws and the reference's search in a list of numbers. -/
import Derived.Test.YtajkepdfemdagaaDoorTmpl
import Derived.Test.YtajkepdfemdagaaDoorCanon
import Derived.Test.YtajkepdfemdagaaDoorRise
namespace Go.Proofs.YtajkepdfemdagaaDoor
open Go.RowKit
set_option linter.unusedVariables false

theorem valid_tm {t : Int × List RelD} (h : SValidTemplate t = true) : ∀ r ∈ t.2, SValidRel t.1 r = true := by
  intro r hr
  unfold SValidTemplate at h
  rw [Bool.and_eq_true, Bool.and_eq_true, Bool.not_eq_true', List.any_eq_false] at h
  have := h.2.2 r hr
  simpa using this
theorem valid_tm_len {t : Int × List RelD} (h : SValidTemplate t = true) : t.2.length ≤ 6 := by
  unfold SValidTemplate at h
  rw [Bool.and_eq_true, Bool.and_eq_true, decide_eq_true_eq] at h
  exact h.2.1

theorem find_here {p : Nat → Bool} {k N : Nat} (hk : k < N) (h0 : ∀ j, j < k → p j = false) (h1 : p k = true) : (List.range N).find? p = some k := by
  rw [List.find?_eq_some_iff_append]
  refine ⟨h1, List.range k, (List.range' (k + 1) (N - (k + 1))), ?_, fun a ha => ?_⟩
  · rw [List.range_eq_range', List.range_eq_range', show k :: List.range' (k + 1) (N - (k + 1)) = List.range' k (N - k) from by
      rw [show N - k = (N - (k + 1)) + 1 by omega, List.range'_succ]]
    have := List.range'_append (s := 0) (m := k) (n := N - k) (step := 1)
    rw [Nat.one_mul, Nat.zero_add] at this
    rw [this, show k + (N - k) = N by omega]
  · rw [h0 a (List.mem_range.1 ha)]
    rfl
theorem find_none {p : Nat → Bool} {N : Nat} (h0 : ∀ j, j < N → p j = false) : (List.range N).find? p = none := by
  rw [List.find?_eq_none]
  intro a ha
  rw [h0 a (List.mem_range.1 ha)]
  simp


end Go.Proofs.YtajkepdfemdagaaDoor
