
/- What a function leaves that answers numbers and a code. -/
import Derived.Test.YtefnmfdmnoednaaInts
namespace Go.Proofs.Ytefnmfdmnoednaa
open Go.RowKit
set_option linter.unusedVariables false

def IRes (R : List Int × Int) (w : World) (e : Ending) (w' : World) : Prop :=
  ∃ u fp, e = .returned (.tuple #[u, .int .i64 R.2]) ∧ Ext w w' ∧ OI w' u R.1 fp ∧ (∀ h ∈ fp, w.heap.size ≤ h) ∧ R.1.length ≤ 1048576
theorem IRes.of {R : List Int × Int} {w w' : World} {u : Value} {c : Int} {fp : List Nat} (hc : c = R.2) (hE : Ext w w') (ho : OI w' u R.1 fp) (hf : ∀ h ∈ fp, w.heap.size ≤ h) (hb : R.1.length ≤ 1048576) : IRes R w (.returned (.tuple #[u, .int .i64 c])) w' := by
  subst hc
  exact ⟨u, fp, rfl, hE, ho, hf, hb⟩
theorem OI_nil (w : World) : OI w (.slice none 0 0) [] [] := ⟨World.ownsRow_nil _ _ _ _, rfl⟩
theorem IRes.no {c : Int} {w w' : World} (hE : Ext w w') : IRes ([], c) w (.returned (.tuple #[.slice none 0 0, .int .i64 c])) w' := IRes.of rfl hE (OI_nil _) (by simp) (by simp)
theorem IRes.no2 {c : Int} {w w' : World} (hE : Ext w w') {g : Nat} (hg : w.heap.size ≤ g) (ho : w'.ownsRow 0 2 1 (.slice (some ⟨g, 0, none⟩) 0 0) 0 []) : IRes ([], c) w (.returned (.tuple #[.slice (some ⟨g, 0, none⟩) 0 0, .int .i64 c])) w' :=
  IRes.of rfl hE ⟨ho, rfl⟩ (fun h hh => by simp [Value.ownBlock] at hh; omega) (by simp)
end Go.Proofs.Ytefnmfdmnoednaa
