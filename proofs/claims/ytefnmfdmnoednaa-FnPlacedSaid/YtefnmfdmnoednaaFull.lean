
/- FullRel: the program's and the reference's give one function's answers. -/
import Derived.Test.YtefnmfdmnoednaaSet
namespace Go.Proofs.Ytefnmfdmnoednaa
open Go.RowKit
set_option linter.unusedVariables false

theorem OSet.store {w : World} {p : Value} {s m : Int} {hs : List Bool} {fp : List Nat} (h : OSet w p s m hs fp) (k : Nat) (hk : k < hs.length) (x : Bool) :
    ∃ b g cap, p = .pointer (some ⟨b, 0, none⟩) ∧ w.cell? ⟨b, 0, none⟩ = some (.int .i64 s) ∧ w.cell? ⟨b, 1, none⟩ = some (.int .i64 m) ∧ w.cell? ⟨b, 2, none⟩ = some (.slice (some ⟨g, 0, none⟩) hs.length cap) ∧ w.cell? ⟨g, k, none⟩ = some (.bool hs[k]) ∧ w.frozen? ⟨g, k, none⟩ = false ∧ g ∈ fp ∧ hs.length ≤ cap ∧ cap ≤ 9223372036854775807 ∧
      OSet (w.setCell ⟨g, k, none⟩ (.bool x)) p s m (hs.set k x) fp := by
  obtain ⟨b, tv, h1, h2, h3, h4, h5, h6⟩ := h
  obtain ⟨g, cap, rfl, k1, k2, k3, k4, k5, k6⟩ := h5.at k hk
  have hne : g ≠ b := fun hh => h6 (hh ▸ k3)
  refine ⟨b, g, cap, h1, h2, h3, h4, k1, k2, k3, k4, k5, b, _, h1, cell_set h2 (.inl hne), cell_set h3 (.inl hne), cell_set h4 (.inl hne), k6 x, h6⟩

theorem allC_congr {s m : Int} {h h' : Nat → Bool} {n : Nat} (hh : ∀ k, k < n → h k = h' k) : allC s m h n = allC s m h' n := by
  unfold allC
  congr 1
  exact List.filter_congr fun k hk => hh k (List.mem_range.1 hk)
/-- a set as a relation of all tuples for which something is so -/
theorem setRel_eq {s m : Int} {hs : List Bool} {p : List Int → Bool} (hh : ∀ k, k < count s m → hs.getD k false = p (digs s m.toNat k)) : setRel s m hs = SrelOf s m p := by
  unfold setRel SrelOf
  rw [allD_eq, allC_congr hh]
def SFullRel (s m : Int) : (Int × List (List Int)) × Int := if inB s 1 4 then if inB m 1 4 then (SrelOf s m fun _ => true, 0) else (noRel, 2) else (noRel, 1)



end Go.Proofs.Ytefnmfdmnoednaa
