
/- A region that draws its order and calls a function whose results are lists of numbers and a code: the results' parts. -/
import Derived.Test.YtemhmpnnccmlmaaBox
import Derived.Test.YtemhmpnnccmlmaaIRes
namespace Go.Proofs.Ytemhmpnnccmlmaa
open Go.RowKit
set_option linter.unusedVariables false

def SP.resI (B : Nat) (R : List Int × Int) : SP := ⟨fun v w => ∃ u fp, v = .tuple #[u, .int .i64 R.2] ∧ OI w u R.1 fp ∧ (∀ g ∈ fp, B ≤ g) ∧ R.1.length ≤ 1048576,
  fun _ _ _ ⟨u, fp, h1, h2, h3, h4⟩ hE => ⟨u, fp, h1, h2.ext hE, h3, h4⟩⟩
def SP.ownIB (B : Nat) (f : List Int) : SP := ⟨fun v w => ∃ fp, OI w v f fp ∧ (∀ g ∈ fp, B ≤ g) ∧ f.length ≤ 1048576, fun _ _ _ ⟨fp, h1, h2, h3⟩ hE => ⟨fp, h1.ext hE, h2, h3⟩⟩
theorem IRes.sp {R : List Int × Int} {B : Nat} {P : Program} {f : FuncId} {args : Array Value} {w : World} (h : Calls P f args w (IRes R w)) (hB : B ≤ w.heap.size) : Calls P f args w fun e w' => ∃ x, e = .returned x ∧ Ext w w' ∧ (SP.resI B R).R x w' :=
  h.mono fun _ _ ⟨u, fp, h1, h2, h3, h4, h5⟩ => ⟨_, h1, h2, u, fp, rfl, h3, fun g hg => Nat.le_trans hB (h4 g hg), h5⟩
theorem Step.resI0 {P : Program} {ops : List Oper} {o : Oper} {ρ : Operand → Value} {w : World} {B : Nat} {R : List Int × Int} {x : Operand} (hg : o.guard = none) (hop : o.op = .extract x 0) (h : (SP.resI B R).R (ρ x) w) : Step P ops o ρ w (SP.ownIB B R.1).R := by
  obtain ⟨u, fp, h1, h2, h3, h4⟩ := h
  exact Step.extract hg hop h1 (by simp) ⟨fp, h2, h3, h4⟩
theorem Step.resI1 {P : Program} {ops : List Oper} {o : Oper} {ρ : Operand → Value} {w : World} {B : Nat} {R : List Int × Int} {x : Operand} (hg : o.guard = none) (hop : o.op = .extract x 1) (h : (SP.resI B R).R (ρ x) w) : Step P ops o ρ w (SP.val (.int .i64 R.2)).R := by
  obtain ⟨u, fp, h1, h2, h3, h4⟩ := h
  exact Step.extract hg hop h1 (by simp) rfl
end Go.Proofs.Ytemhmpnnccmlmaa
