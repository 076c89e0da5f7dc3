
/- A reading of a row of bytes, opened. -/
import Derived.Test.YtefnmfdmnoednaaLift
import Derived.Test.YtefnmfdmnoednaaSrc
namespace Go.Proofs.Ytefnmfdmnoednaa
open Go.ChangeShapes Go.WideShapes Go.ChangeAt Go.RowKit Go.Joins Go.Deep

theorem cellsB : Try.prog.cellsOf 5 = 1 := by kernel_rfl
section
variable {H : Type} {enc : TypeId × Value → H} {W : World}
set_option maxRecDepth 100000 in
theorem rdB_of {fuel : Nat} {v : Value} {x : DataW H × List MemPlace} (h : DataW.trod enc Try.prog W 0 (fun _ => true) true fuel 70 [v] = some x) : ∃ a n c, v = .slice a n c ∧ RdB W (.slice a n c) ∧ (a = none → c = 0) := by
  rcases open_ints Try.underlying70 Try.underlying5 cellsB h with ⟨hcs, _⟩ | ⟨a, len, cap, zs, hcs, _, hl, hm, hz, _, hcell, hwf⟩
  · simp at hcs
    subst hcs
    exact ⟨none, 0, 0, rfl, ⟨none, 0, 0, 0, 0, rfl, by omega, by omega, fun h => by omega, fun j hj => by omega⟩, fun _ => rfl⟩
  · simp at hcs
    subst hcs
    simp only [if_true] at hz
    by_cases hp : 0 < zs.length
    · obtain ⟨b, off, rfl, hc⟩ := ints_at hcell hp
      refine ⟨_, _, _, rfl, ⟨some ⟨b, off, none⟩, b, off, len, cap, rfl, hl, by unfold maxLen at hm; omega, fun _ => rfl, fun j hj => ?_⟩, fun h => by cases h⟩
      have hj2 : j < zs.length := by omega
      have hw := hwf zs[j] (List.getElem_mem hj2)
      simp [Lit.wf, IntKind.min, IntKind.max, IntKind.signed, IntKind.bits] at hw
      have hcj := hc j hj2
      rw [List.getD_eq_getElem?_getD, List.getElem?_eq_getElem hj2] at hcj
      exact ⟨zs[j], by omega, by omega, lt_of_cell hcj, hcj⟩
    · exact ⟨_, _, _, rfl, ⟨some a, 0, 0, len, cap, rfl, hl, by unfold maxLen at hm; omega, fun h => by omega, fun j hj => by omega⟩, fun h => by cases h⟩
set_option maxRecDepth 100000 in
theorem dB_of {v : Value} {d : DataW H} {p : List MemPlace} {b : Nat} (h : DataW.Trod enc Try.prog W 0 (fun _ => true) true 70 v d p) (hv : Value.okWide Try.prog W .any b 70 v) : ∃ a n c, v = .slice a n c ∧ RdB W (.slice a n c) ∧ (a = none → c = 0) := by
  obtain ⟨a0, len, cap, rfl⟩ := okWide_slice Try.underlying70 hv
  obtain ⟨fuel, hf⟩ := h
  exact rdB_of hf
end
end Go.Proofs.Ytefnmfdmnoednaa
