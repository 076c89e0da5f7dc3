/-
  No cell of these rows narrows 'for every input' (looked for: loops, veiled, ifaces, maps, wideKeys, modest, calm, conditions, laid).
  DERIVED. THE GIVEN ROWS OF THIS SEAT. 7 by the template 'for every input the law returns true; each argument reads behind the call as it read before'; 0 by the template 'total and deterministic' (their statements: YtefnmfdmnoednaaTotals.lean).
  GIVEN WITH THE SEED: the statements are not yours to turn. If you find one false, say at which input.
  Laid BY PROGRAM, IN A SANDBOX (cutbox-rows.mjs): the forced cells as the released guide's own fill.sh prints them over the translation 7add4f78e069d9c1… (all of the seat's roots in one cut). By AI agents, Wed Nov 11 2026. No macro, syntax, notation, axiom, sorry.
-/
import Derived.Test.YtefnmfdmnoednaaChecked
import GoSem.Claim
import GoSem.ClaimJoined
import GoSem.ClaimMapViews
import Derived.JoinedTies
import Derived.KernelRfl
namespace Go.Proofs.Ytefnmfdmnoednaa
/- THE CELL 'sum', in the pinned program and in every row, IS THE sha256 OF THE DUMP (.gsa) THAT YtefnmfdmnoednaaProg.lean LOADS. Nothing in Lean hashes anything: it is a label: what it is worth is what the hold of that sum in a sandbox is worth. -/
noncomputable def Try.pinned : Pinned := { name := "ytefnmfdmnoednaa", sum := "7add4f78e069d9c17a30f047197f046e246a025cd888444c2fa0f244dfdbdb0d", checked := Try.checked }
namespace Rows
def none {H : Type} : Left H := { results := [], args := [] }

/-- 'laws.FnExactMakeRel': WHATEVER THE INPUT: true; the input reads as it did. -/
def fnExactMakeRelSpec : ChangeSpec := { name := "fnExactMakeRel", fn := fun _ => fun
  | [d1, d2, d3] => { results := [.lit (.bool true)], args := [d1, d2, d3] }
  | _ => none }
def fnExactMakeRelRow : OpenClaim := { program := "ytefnmfdmnoednaa", sum := "7add4f78e069d9c17a30f047197f046e246a025cd888444c2fa0f244dfdbdb0d", func := "loop.example/g01085/laws.FnExactMakeRel", spec := "fnExactMakeRel", unfollowed := true, recurses := true, apart := false }
def FnExactMakeRelSaid : Prop := fnExactMakeRelRow.holds Try.pinned (OpenSpec.ofChange fnExactMakeRelSpec)

/-- ITS FALSE NEIGHBOUR: 'it returns false'. Refute it at one input. -/
def fnExactMakeRelWrong : ChangeSpec := { name := "fnExactMakeRel", fn := fun _ => fun
  | [d1, d2, d3] => { results := [.lit (.bool false)], args := [d1, d2, d3] }
  | _ => none }
def FnExactMakeRelWrongFalsely : Prop := fnExactMakeRelRow.holds Try.pinned (OpenSpec.ofChange fnExactMakeRelWrong)

/-- 'laws.FnExactMapRel': WHATEVER THE INPUT: true; the input reads as it did. -/
def fnExactMapRelSpec : ChangeSpec := { name := "fnExactMapRel", fn := fun _ => fun
  | [d1, d2, d3, d4] => { results := [.lit (.bool true)], args := [d1, d2, d3, d4] }
  | _ => none }
def fnExactMapRelRow : OpenClaim := { program := "ytefnmfdmnoednaa", sum := "7add4f78e069d9c17a30f047197f046e246a025cd888444c2fa0f244dfdbdb0d", func := "loop.example/g01085/laws.FnExactMapRel", spec := "fnExactMapRel", unfollowed := true, recurses := true, apart := false }
def FnExactMapRelSaid : Prop := fnExactMapRelRow.holds Try.pinned (OpenSpec.ofChange fnExactMapRelSpec)

/-- ITS FALSE NEIGHBOUR: 'it returns false'. Refute it at one input. -/
def fnExactMapRelWrong : ChangeSpec := { name := "fnExactMapRel", fn := fun _ => fun
  | [d1, d2, d3, d4] => { results := [.lit (.bool false)], args := [d1, d2, d3, d4] }
  | _ => none }
def FnExactMapRelWrongFalsely : Prop := fnExactMapRelRow.holds Try.pinned (OpenSpec.ofChange fnExactMapRelWrong)

/-- 'laws.FnExactProjectRel': WHATEVER THE INPUT: true; the input reads as it did. -/
def fnExactProjectRelSpec : ChangeSpec := { name := "fnExactProjectRel", fn := fun _ => fun
  | [d1, d2, d3] => { results := [.lit (.bool true)], args := [d1, d2, d3] }
  | _ => none }
def fnExactProjectRelRow : OpenClaim := { program := "ytefnmfdmnoednaa", sum := "7add4f78e069d9c17a30f047197f046e246a025cd888444c2fa0f244dfdbdb0d", func := "loop.example/g01085/laws.FnExactProjectRel", spec := "fnExactProjectRel", unfollowed := true, recurses := true, apart := false }
def FnExactProjectRelSaid : Prop := fnExactProjectRelRow.holds Try.pinned (OpenSpec.ofChange fnExactProjectRelSpec)

/-- ITS FALSE NEIGHBOUR: 'it returns false'. Refute it at one input. -/
def fnExactProjectRelWrong : ChangeSpec := { name := "fnExactProjectRel", fn := fun _ => fun
  | [d1, d2, d3] => { results := [.lit (.bool false)], args := [d1, d2, d3] }
  | _ => none }
def FnExactProjectRelWrongFalsely : Prop := fnExactProjectRelRow.holds Try.pinned (OpenSpec.ofChange fnExactProjectRelWrong)

/-- 'laws.FnExactIsOfKind': WHATEVER THE INPUT: true; the input reads as it did. -/
def fnExactIsOfKindSpec : ChangeSpec := { name := "fnExactIsOfKind", fn := fun _ => fun
  | [d1, d2, d3] => { results := [.lit (.bool true)], args := [d1, d2, d3] }
  | _ => none }
def fnExactIsOfKindRow : OpenClaim := { program := "ytefnmfdmnoednaa", sum := "7add4f78e069d9c17a30f047197f046e246a025cd888444c2fa0f244dfdbdb0d", func := "loop.example/g01085/laws.FnExactIsOfKind", spec := "fnExactIsOfKind", unfollowed := true, recurses := true, apart := false }
def FnExactIsOfKindSaid : Prop := fnExactIsOfKindRow.holds Try.pinned (OpenSpec.ofChange fnExactIsOfKindSpec)

/-- ITS FALSE NEIGHBOUR: 'it returns false'. Refute it at one input. -/
def fnExactIsOfKindWrong : ChangeSpec := { name := "fnExactIsOfKind", fn := fun _ => fun
  | [d1, d2, d3] => { results := [.lit (.bool false)], args := [d1, d2, d3] }
  | _ => none }
def FnExactIsOfKindWrongFalsely : Prop := fnExactIsOfKindRow.holds Try.pinned (OpenSpec.ofChange fnExactIsOfKindWrong)

/-- 'laws.FnExactKindsOf': WHATEVER THE INPUT: true; the input reads as it did. -/
def fnExactKindsOfSpec : ChangeSpec := { name := "fnExactKindsOf", fn := fun _ => fun
  | [d1, d2] => { results := [.lit (.bool true)], args := [d1, d2] }
  | _ => none }
def fnExactKindsOfRow : OpenClaim := { program := "ytefnmfdmnoednaa", sum := "7add4f78e069d9c17a30f047197f046e246a025cd888444c2fa0f244dfdbdb0d", func := "loop.example/g01085/laws.FnExactKindsOf", spec := "fnExactKindsOf", unfollowed := true, recurses := true, apart := false }
def FnExactKindsOfSaid : Prop := fnExactKindsOfRow.holds Try.pinned (OpenSpec.ofChange fnExactKindsOfSpec)

/-- ITS FALSE NEIGHBOUR: 'it returns false'. Refute it at one input. -/
def fnExactKindsOfWrong : ChangeSpec := { name := "fnExactKindsOf", fn := fun _ => fun
  | [d1, d2] => { results := [.lit (.bool false)], args := [d1, d2] }
  | _ => none }
def FnExactKindsOfWrongFalsely : Prop := fnExactKindsOfRow.holds Try.pinned (OpenSpec.ofChange fnExactKindsOfWrong)

/-- 'laws.FnExactCoreOf': WHATEVER THE INPUT: true; the input reads as it did. -/
def fnExactCoreOfSpec : ChangeSpec := { name := "fnExactCoreOf", fn := fun _ => fun
  | [d] => { results := [.lit (.bool true)], args := [d] }
  | _ => none }
def fnExactCoreOfRow : OpenClaim := { program := "ytefnmfdmnoednaa", sum := "7add4f78e069d9c17a30f047197f046e246a025cd888444c2fa0f244dfdbdb0d", func := "loop.example/g01085/laws.FnExactCoreOf", spec := "fnExactCoreOf", unfollowed := true, recurses := true, apart := false }
def FnExactCoreOfSaid : Prop := fnExactCoreOfRow.holds Try.pinned (OpenSpec.ofChange fnExactCoreOfSpec)

/-- ITS FALSE NEIGHBOUR: 'it returns false'. Refute it at one input. -/
def fnExactCoreOfWrong : ChangeSpec := { name := "fnExactCoreOf", fn := fun _ => fun
  | [d] => { results := [.lit (.bool false)], args := [d] }
  | _ => none }
def FnExactCoreOfWrongFalsely : Prop := fnExactCoreOfRow.holds Try.pinned (OpenSpec.ofChange fnExactCoreOfWrong)

/-- 'laws.FnPlaced': WHATEVER THE INPUT: true; the input reads as it did. -/
def fnPlacedSpec : ChangeSpec := { name := "fnPlaced", fn := fun _ => fun
  | [d1, d2] => { results := [.lit (.bool true)], args := [d1, d2] }
  | _ => none }
def fnPlacedRow : OpenClaim := { program := "ytefnmfdmnoednaa", sum := "7add4f78e069d9c17a30f047197f046e246a025cd888444c2fa0f244dfdbdb0d", func := "loop.example/g01085/laws.FnPlaced", spec := "fnPlaced", unfollowed := true, recurses := true, apart := false }
def FnPlacedSaid : Prop := fnPlacedRow.holds Try.pinned (OpenSpec.ofChange fnPlacedSpec)

/-- ITS FALSE NEIGHBOUR: 'it returns false'. Refute it at one input. -/
def fnPlacedWrong : ChangeSpec := { name := "fnPlaced", fn := fun _ => fun
  | [d1, d2] => { results := [.lit (.bool false)], args := [d1, d2] }
  | _ => none }
def FnPlacedWrongFalsely : Prop := fnPlacedRow.holds Try.pinned (OpenSpec.ofChange fnPlacedWrong)

/- THE SECOND FORM. 'bulk': how many values and letters a reading holds, each counted each time it is reached (what is shared counts as often as it is met; a slice's spare places count too). A statement '..UptoSaid' is the law's where the arguments, and the package variables that the reading takes, are together of bulk at most 1048576: NARROWER than '..Said'. Prove '..Said' where nothing that the law and all that it calls make is longer than what came in: it says more and counts as full. Else prove '..UptoSaid'. A law counts once. -/
mutual
def uptoBulk {H : Type} : DataW H → Nat
  | .lit (.string bytes) => bytes.length + 1
  | .lit _ => 1
  | .nil => 1
  | .ptr d => uptoBulk d + 1
  | .slice elems spare => uptoBulkAll elems + uptoBulkAll spare + 1
  | .agg parts => uptoBulkAll parts + 1
  | .iface _ d => uptoBulk d + 1
  | .map entries => uptoBulkEntries entries + 1
  | .held _ => 1
def uptoBulkAll {H : Type} : List (DataW H) → Nat
  | [] => 0
  | d :: r => uptoBulk d + uptoBulkAll r
def uptoBulkEntries {H : Type} : List (Lit × DataW H) → Nat
  | [] => 0
  | x :: r => uptoBulkEntry x + uptoBulkEntries r
def uptoBulkEntry {H : Type} : Lit × DataW H → Nat
  | (.string bytes, d) => bytes.length + uptoBulk d + 1
  | (_, d) => uptoBulk d + 1
 end
def uptoSmall : (H : Type) → List (DataW H) → Bool := fun _ ds => decide (uptoBulkAll ds ≤ 1048576)
def OpenSpec.upto (s : _root_.Go.ChangeSpec) : _root_.Go.OpenSpec := { _root_.Go.OpenSpec.ofChange s with cond := some uptoSmall }

/-- 'laws.FnExactMakeRel', WHERE WHAT IT READS IS OF BULK AT MOST 1048576: true; the input reads as it did. -/
def fnExactMakeRelUptoRow : OpenClaim := { program := "ytefnmfdmnoednaa", sum := "7add4f78e069d9c17a30f047197f046e246a025cd888444c2fa0f244dfdbdb0d", func := "loop.example/g01085/laws.FnExactMakeRel", spec := "fnExactMakeRel", unfollowed := true, recurses := true, apart := false, narrowed := true }
def FnExactMakeRelUptoSaid : Prop := fnExactMakeRelUptoRow.holds Try.pinned (OpenSpec.upto fnExactMakeRelSpec)

/-- 'laws.FnExactMapRel', WHERE WHAT IT READS IS OF BULK AT MOST 1048576: true; the input reads as it did. -/
def fnExactMapRelUptoRow : OpenClaim := { program := "ytefnmfdmnoednaa", sum := "7add4f78e069d9c17a30f047197f046e246a025cd888444c2fa0f244dfdbdb0d", func := "loop.example/g01085/laws.FnExactMapRel", spec := "fnExactMapRel", unfollowed := true, recurses := true, apart := false, narrowed := true }
def FnExactMapRelUptoSaid : Prop := fnExactMapRelUptoRow.holds Try.pinned (OpenSpec.upto fnExactMapRelSpec)

/-- 'laws.FnExactProjectRel', WHERE WHAT IT READS IS OF BULK AT MOST 1048576: true; the input reads as it did. -/
def fnExactProjectRelUptoRow : OpenClaim := { program := "ytefnmfdmnoednaa", sum := "7add4f78e069d9c17a30f047197f046e246a025cd888444c2fa0f244dfdbdb0d", func := "loop.example/g01085/laws.FnExactProjectRel", spec := "fnExactProjectRel", unfollowed := true, recurses := true, apart := false, narrowed := true }
def FnExactProjectRelUptoSaid : Prop := fnExactProjectRelUptoRow.holds Try.pinned (OpenSpec.upto fnExactProjectRelSpec)

/-- 'laws.FnExactIsOfKind', WHERE WHAT IT READS IS OF BULK AT MOST 1048576: true; the input reads as it did. -/
def fnExactIsOfKindUptoRow : OpenClaim := { program := "ytefnmfdmnoednaa", sum := "7add4f78e069d9c17a30f047197f046e246a025cd888444c2fa0f244dfdbdb0d", func := "loop.example/g01085/laws.FnExactIsOfKind", spec := "fnExactIsOfKind", unfollowed := true, recurses := true, apart := false, narrowed := true }
def FnExactIsOfKindUptoSaid : Prop := fnExactIsOfKindUptoRow.holds Try.pinned (OpenSpec.upto fnExactIsOfKindSpec)

/-- 'laws.FnExactKindsOf', WHERE WHAT IT READS IS OF BULK AT MOST 1048576: true; the input reads as it did. -/
def fnExactKindsOfUptoRow : OpenClaim := { program := "ytefnmfdmnoednaa", sum := "7add4f78e069d9c17a30f047197f046e246a025cd888444c2fa0f244dfdbdb0d", func := "loop.example/g01085/laws.FnExactKindsOf", spec := "fnExactKindsOf", unfollowed := true, recurses := true, apart := false, narrowed := true }
def FnExactKindsOfUptoSaid : Prop := fnExactKindsOfUptoRow.holds Try.pinned (OpenSpec.upto fnExactKindsOfSpec)

/-- 'laws.FnExactCoreOf', WHERE WHAT IT READS IS OF BULK AT MOST 1048576: true; the input reads as it did. -/
def fnExactCoreOfUptoRow : OpenClaim := { program := "ytefnmfdmnoednaa", sum := "7add4f78e069d9c17a30f047197f046e246a025cd888444c2fa0f244dfdbdb0d", func := "loop.example/g01085/laws.FnExactCoreOf", spec := "fnExactCoreOf", unfollowed := true, recurses := true, apart := false, narrowed := true }
def FnExactCoreOfUptoSaid : Prop := fnExactCoreOfUptoRow.holds Try.pinned (OpenSpec.upto fnExactCoreOfSpec)

/-- 'laws.FnPlaced', WHERE WHAT IT READS IS OF BULK AT MOST 1048576: true; the input reads as it did. -/
def fnPlacedUptoRow : OpenClaim := { program := "ytefnmfdmnoednaa", sum := "7add4f78e069d9c17a30f047197f046e246a025cd888444c2fa0f244dfdbdb0d", func := "loop.example/g01085/laws.FnPlaced", spec := "fnPlaced", unfollowed := true, recurses := true, apart := false, narrowed := true }
def FnPlacedUptoSaid : Prop := fnPlacedUptoRow.holds Try.pinned (OpenSpec.upto fnPlacedSpec)

end Rows
end Go.Proofs.Ytefnmfdmnoednaa
