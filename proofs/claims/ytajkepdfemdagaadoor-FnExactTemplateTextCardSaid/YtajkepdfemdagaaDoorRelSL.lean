
/- A list of relations among a row's readings, opened. -/
import Derived.Test.YtajkepdfemdagaaDoorRelL
import Derived.Test.YtajkepdfemdagaaDoorRelS
import Derived.Deep.SlicePairs
namespace Go.Proofs.YtajkepdfemdagaaDoor
open Go.ChangeShapes Go.WideShapes Go.ChangeAt Go.RowKit Go.Joins Go.Deep
theorem cellsIIv : Tryd.prog.cellsOf 31 = 1 := by kernel_rfl
section
variable {H : Type} {enc : TypeId × Value → H} {W : World}
set_option maxRecDepth 100000 in
theorem rdRelS_of {fuel : Nat} {v : Value} {x : DataW H × List MemPlace} (h : DataW.trod enc Tryd.prog W 0 (fun _ => true) true fuel 40 [v] = some x) : ∃ fs, RdRelS W v fs := by
  rcases open_slice_pairs Tryd.underlying40 Tryd.underlying33 cellsRel rfl rfl cellsI cellsIIv h with ⟨hcs, _⟩ | ⟨a, len, cap, m, n, V0, V1, D0, D1, P0, P1, hcs, _, hl, hm, hmm, _, hx⟩
  · simp at hcs
    subst hcs
    exact ⟨[], RdRelS.nil W⟩
  · simp at hcs
    subst hcs
    simp only [if_true] at hmm
    subst hmm
    obtain ⟨L, hL⟩ := choose_lt (α := Int × List (List Int)) (n := len) (p := fun i f => V0 i = .int .i64 f.1 ∧ RdII W (V1 i) f.2) (fun i hi => by
      obtain ⟨_, _, g0, g1⟩ := hx i (by omega)
      obtain ⟨z, e0, _, _⟩ := DataW.trod_int Tryd.underlying2 g0
      simp at e0
      obtain ⟨l, hl⟩ := rdII_of g1
      exact ⟨(z, l), e0, hl⟩)
    refine ⟨(List.range len).map L, ?_⟩
    have hlen : ((List.range len).map L).length = len := by simp
    by_cases hp : 0 < len
    · obtain ⟨b, off, spot⟩ := a
      have hspot : spot = none := by simpa [Addr.add] using World.cell?_spot (hx 0 (by omega)).1
      subst hspot
      refine ⟨some ⟨b, off, none⟩, b, off, m, V1, by rw [hlen], by omega, by unfold maxLen at hm; omega, fun _ => rfl, fun j hj => ?_⟩
      rw [hlen] at hj
      obtain ⟨k0, k1, _, _⟩ := hx j (by omega)
      rw [Go.WideShapes.add_plain] at k0 k1
      obtain ⟨q0, q1⟩ := hL j hj
      refine ⟨by rw [k0, q0]; simp, k1, ?_⟩
      simpa using q1
    · refine ⟨some a, 0, 0, m, V1, by rw [hlen], by omega, by unfold maxLen at hm; omega, fun h => by omega, fun j hj => by omega⟩
set_option maxRecDepth 100000 in
theorem dRelS_of {v : Value} {d : DataW H} {p : List MemPlace} {b : Nat} (h : DataW.Trod enc Tryd.prog W 0 (fun _ => true) true 40 v d p) (hv : Value.okWide Tryd.prog W .any b 40 v) : ∃ l, RdRelS W v l := by
  obtain ⟨a0, len, cap, rfl⟩ := okWide_slice Tryd.underlying40 hv
  obtain ⟨fuel, hf⟩ := h
  exact rdRelS_of hf
end
end Go.Proofs.YtajkepdfemdagaaDoor
