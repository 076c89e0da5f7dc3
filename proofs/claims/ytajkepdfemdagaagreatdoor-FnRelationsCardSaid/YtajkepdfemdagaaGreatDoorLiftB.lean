
/- A reading of a row of bytes, opened. -/
import Derived.Test.YtajkepdfemdagaaGreatDoorLift
import Derived.Test.YtajkepdfemdagaaGreatDoorSrc
namespace Go.Proofs.YtajkepdfemdagaaGreatDoor
open Go.ChangeShapes Go.WideShapes Go.ChangeAt Go.RowKit Go.Joins Go.Deep

theorem cellsB : Tryz.prog.cellsOf 5 = 1 := by kernel_rfl
section
variable {H : Type} {enc : TypeId × Value → H} {W : World}
set_option maxRecDepth 100000 in
theorem rdB_of {fuel : Nat} {v : Value} {x : DataW H × List MemPlace} (h : DataW.trod enc Tryz.prog W 0 (fun _ => true) true fuel 30 [v] = some x) : ∃ a n c, v = .slice a n c ∧ RdB W (.slice a n c) ∧ (a = none → c = 0) := by
  rcases open_ints Tryz.underlying30 Tryz.underlying5 cellsB h with ⟨hcs, _⟩ | ⟨a, len, cap, zs, hcs, _, hl, hm, hz, _, hcell, hwf⟩
  · simp at hcs
    subst hcs
    exact ⟨none, 0, 0, rfl, ⟨none, 0, 0, 0, 0, rfl, by omega, by omega, fun h => by omega, fun j hj => by omega⟩, fun _ => rfl⟩
  · simp at hcs
    subst hcs
    simp only [if_true] at hz
    by_cases hp : 0 < zs.length
    · obtain ⟨b, off, rfl, hc⟩ := ints_at hcell hp
      refine ⟨_, _, _, rfl, ⟨some ⟨b, off, none⟩, b, off, len, cap, rfl, hl, by unfold maxLen at hm; omega, fun _ => rfl, fun j hj => ?_⟩, fun h => by cases h⟩
      have hj2 : j < zs.length := by omega
      have hw := hwf zs[j] (List.getElem_mem hj2)
      simp [Lit.wf, IntKind.min, IntKind.max, IntKind.signed, IntKind.bits] at hw
      have hcj := hc j hj2
      rw [List.getD_eq_getElem?_getD, List.getElem?_eq_getElem hj2] at hcj
      exact ⟨zs[j], by omega, by omega, lt_of_cell hcj, hcj⟩
    · exact ⟨_, _, _, rfl, ⟨some a, 0, 0, len, cap, rfl, hl, by unfold maxLen at hm; omega, fun h => by omega, fun j hj => by omega⟩, fun h => by cases h⟩
set_option maxRecDepth 100000 in
theorem dB_of {v : Value} {d : DataW H} {p : List MemPlace} {b : Nat} (h : DataW.Trod enc Tryz.prog W 0 (fun _ => true) true 30 v d p) (hv : Value.okWide Tryz.prog W .any b 30 v) : ∃ a n c, v = .slice a n c ∧ RdB W (.slice a n c) ∧ (a = none → c = 0) := by
  obtain ⟨a0, len, cap, rfl⟩ := okWide_slice Tryz.underlying30 hv
  obtain ⟨fuel, hf⟩ := h
  exact rdB_of hf
end
end Go.Proofs.YtajkepdfemdagaaGreatDoor
