
/- A relation among a row's readings, opened. -/
import Derived.Test.YtajkepdfemdagaaDoorIIL
import Derived.Test.YtajkepdfemdagaaDoorRelT
namespace Go.Proofs.YtajkepdfemdagaaDoor
open Go.ChangeShapes Go.WideShapes Go.ChangeAt Go.RowKit Go.Joins Go.Deep
theorem cellsRel : Tryd.prog.cellsOf 33 = 2 := by kernel_rfl
section
variable {H : Type} {enc : TypeId × Value → H} {W : World}
set_option maxRecDepth 100000 in
theorem dRel_of {v : Value} {d : DataW H} {p : List MemPlace} {b : Nat} (h : DataW.Trod enc Tryd.prog W 0 (fun _ => true) true 33 v d p) (hv : Value.okWide Tryd.prog W .any b 33 v) : ∃ f, RdRel W v f := by
  obtain ⟨c0, c1, y0, y1, m, rfl, _, _, hy0, hy1⟩ := open_agg2 Tryd.underlying33 (by kernel_rfl) cellsRel hv h
  obtain ⟨a, e0, _, _⟩ := DataW.trod_int Tryd.underlying2 hy0
  simp at e0
  subst e0
  obtain ⟨l, hl⟩ := rdII_of hy1
  exact ⟨(a, l), _, rfl, hl⟩
end
end Go.Proofs.YtajkepdfemdagaaDoor
