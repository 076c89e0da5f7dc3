
/- OpText: the program's and the reference's give one text. -/
import Derived.Test.YtajkepdfemdagaaGreatDoorText
import Derived.Test.YtajkepdfemdagaaGreatDoorOpV
import Derived.Test.YtajkepdfemdagaaGreatDoorCode
import Derived.Test.YtajkepdfemdagaaGreatDoorCount
import Derived.Test.YtajkepdfemdagaaGreatDoorSteps
namespace Go.Proofs.YtajkepdfemdagaaGreatDoor
open Go.RowKit
set_option linter.unusedVariables false

/-- valid for some size -/
def SAnyOp (f : Int × List Int) : Bool := (List.range 4).any fun k : Nat => SValidOp ((k : Int) + 1) f
theorem anyOp_yes {f : Int × List Int} {k : Nat} (h0 : 1 ≤ k) (h1 : k ≤ 4) (h : SValidOp (k : Int) f = true) : SAnyOp f = true := by
  unfold SAnyOp
  rw [List.any_eq_true]
  refine ⟨k - 1, List.mem_range.2 (by omega), ?_⟩
  rw [show ((k - 1 : Nat) : Int) + 1 = (k : Int) by omega]
  exact h
theorem anyOp_no {f : Int × List Int} (h : ∀ k : Nat, 1 ≤ k → k ≤ 4 → SValidOp (k : Int) f = false) : SAnyOp f = false := by
  unfold SAnyOp
  rw [List.any_eq_false]
  intro k hk
  have := List.mem_range.1 hk
  have h2 := h (k + 1) (by omega) (by omega)
  rw [show ((k + 1 : Nat) : Int) = (k : Int) + 1 by omega] at h2
  simp [h2]
theorem anyOp_parts {f : Int × List Int} (h : SAnyOp f = true) : 1 ≤ f.1 ∧ f.1 ≤ 3 ∧ (∀ x ∈ f.2, 0 ≤ x ∧ x < 4) ∧ f.2.length ≤ 256 := by
  unfold SAnyOp at h
  rw [List.any_eq_true] at h
  obtain ⟨k, hk, h⟩ := h
  have hk4 := List.mem_range.1 hk
  unfold SValidOp at h
  rw [Bool.and_eq_true, Bool.and_eq_true] at h
  obtain ⟨_, h2, h3⟩ := h
  have h2 := inB_iff.1 h2
  obtain ⟨h4, h5⟩ := vals_iff.1 h3
  have hp := powW_small ((k : Int) + 1) f.1 (by omega) (by omega) (by omega) (by omega)
  exact ⟨h2.1, h2.2, fun x hx => by have := h5 x hx; omega, by omega⟩
/-- the text of an operation -/
def opB (f : Int × List Int) : ByteArray := ⟨#[111, 112, 32]⟩ ++ decB f.1 ++ ⟨#[32]⟩ ++ digB f.2
def SOpText (f : Int × List Int) : ByteArray := if SAnyOp f then opB f else ByteArray.empty

end Go.Proofs.YtajkepdfemdagaaGreatDoor
