
/- A list of lists among a row's readings, opened. -/
import Derived.Test.YtajkepdfemdagaaDoorLift
import Derived.Test.YtajkepdfemdagaaDoorII
namespace Go.Proofs.YtajkepdfemdagaaDoor
open Go.ChangeShapes Go.WideShapes Go.ChangeAt Go.RowKit Go.Joins Go.Deep
theorem szInt64SS_ext (ll : List (List Int)) (v : Value) (left : Int) (w : World) (hr : RdII w v ll) (h0 : 0 ≤ left) (h1 : left ≤ 1048576) :
    Calls Tryd.prog 39 #[v, .int .i64 left] w fun e w' => e = .returned (.int .i64 (szL left (szII ll))) ∧ Ext w w' := (szInt64SS_any ll v left w hr h0 h1).mono fun _ _ ⟨a, b⟩ => ⟨a, b ▸ Ext.refl' _⟩
theorem cellsIS : Tryd.prog.cellsOf 22 = 1 := by kernel_rfl
section
variable {H : Type} {enc : TypeId × Value → H} {W : World}
set_option maxRecDepth 100000 in
theorem rdII_of {fuel : Nat} {v : Value} {x : DataW H × List MemPlace} (h : DataW.trod enc Tryd.prog W 0 (fun _ => true) true fuel 31 [v] = some x) : ∃ ll, RdII W v ll := by
  rcases open_slice1 Tryd.underlying31 cellsIS h with ⟨hcs, _⟩ | ⟨a, len, cap, m, n, V, D, Pl, hcs, _, hl, hm, hmm, _, hx⟩
  · simp at hcs
    subst hcs
    exact ⟨[], RdII.nil W⟩
  · simp at hcs
    subst hcs
    simp only [if_true] at hmm
    subst hmm
    obtain ⟨L, hL⟩ := choose_lt (α := List Int) (n := len) (p := fun i l => RdI W (V i) l) (fun i hi => rdI_of (hx i (by omega)).2)
    refine ⟨(List.range len).map L, ?_⟩
    have hlen : ((List.range len).map L).length = len := by simp
    by_cases hp : 0 < len
    · obtain ⟨b, off, spot⟩ := a
      have hspot : spot = none := by simpa [Addr.add] using World.cell?_spot (hx 0 (by omega)).1
      subst hspot
      refine ⟨some ⟨b, off, none⟩, b, off, m, V, by rw [hlen], by omega, by unfold maxLen at hm; omega, fun _ => rfl, fun j hj => ?_⟩
      rw [hlen] at hj
      refine ⟨by rw [← Go.WideShapes.add_plain]; exact (hx j (by omega)).1, ?_⟩
      simpa using hL j hj
    · refine ⟨some a, 0, 0, m, V, by rw [hlen], by omega, by unfold maxLen at hm; omega, fun h => by omega, fun j hj => by omega⟩
set_option maxRecDepth 100000 in
theorem dII_of {v : Value} {d : DataW H} {p : List MemPlace} {b : Nat} (h : DataW.Trod enc Tryd.prog W 0 (fun _ => true) true 31 v d p) (hv : Value.okWide Tryd.prog W .any b 31 v) : ∃ l, RdII W v l := by
  obtain ⟨a0, len, cap, rfl⟩ := okWide_slice Tryd.underlying31 hv
  obtain ⟨fuel, hf⟩ := h
  exact rdII_of hf
end
end Go.Proofs.YtajkepdfemdagaaDoor
