/-
  No cell of these rows narrows 'for every input' (looked for: loops, veiled, ifaces, maps, wideKeys, modest, calm, conditions, laid).
  DERIVED. THE GIVEN ROWS OF THIS SEAT. 11 by the template 'for every input the law returns true; each argument reads behind the call as it read before'; 0 by the template 'total and deterministic' (their statements: YtfmoekfeajfidaaTotals.lean).
  GIVEN WITH THE SEED: the statements are not yours to turn. If you find one false, say at which input.
  Laid BY PROGRAM, IN A SANDBOX (cutbox-rows.mjs): the forced cells as the released guide's own fill.sh prints them over the translation 87b80ff56704e9ac… (all of the seat's roots in one cut). By AI agents, Wed Nov 11 2026. No macro, syntax, notation, axiom, sorry.
-/
import Derived.Test.YtfmoekfeajfidaaChecked
import GoSem.Claim
import GoSem.ClaimJoined
import GoSem.ClaimMapViews
import Derived.JoinedTies
import Derived.KernelRfl
namespace Go.Proofs.Ytfmoekfeajfidaa
/- THE CELL 'sum', in the pinned program and in every row, IS THE sha256 OF THE DUMP (.gsa) THAT YtfmoekfeajfidaaProg.lean LOADS. Nothing in Lean hashes anything: it is a label: what it is worth is what the hold of that sum in a sandbox is worth. -/
noncomputable def Try.pinned : Pinned := { name := "ytfmoekfeajfidaa", sum := "87b80ff56704e9acd93e06a729fd5d70999e2ef05756dab1aad9faeae22b4fc7", checked := Try.checked }
namespace Rows
def none {H : Type} : Left H := { results := [], args := [] }

/-- 'laws.FnExactConstants': WHATEVER THE INPUT: true; the input reads as it did. -/
def fnExactConstantsSpec : ChangeSpec := { name := "fnExactConstants", fn := fun _ => fun
  | [] => { results := [.lit (.bool true)], args := [] }
  | _ => none }
def fnExactConstantsRow : OpenClaim := { program := "ytfmoekfeajfidaa", sum := "87b80ff56704e9acd93e06a729fd5d70999e2ef05756dab1aad9faeae22b4fc7", func := "loop.example/g01085/laws.FnExactConstants", spec := "fnExactConstants", apart := false }
def FnExactConstantsSaid : Prop := fnExactConstantsRow.holds Try.pinned (OpenSpec.ofChange fnExactConstantsSpec)

/-- ITS FALSE NEIGHBOUR: 'it returns false'. Refute it at one input. -/
def fnExactConstantsWrong : ChangeSpec := { name := "fnExactConstants", fn := fun _ => fun
  | [] => { results := [.lit (.bool false)], args := [] }
  | _ => none }
def FnExactConstantsWrongFalsely : Prop := fnExactConstantsRow.holds Try.pinned (OpenSpec.ofChange fnExactConstantsWrong)

/-- 'laws.FnExactCodeName': WHATEVER THE INPUT: true; the input reads as it did. -/
def fnExactCodeNameSpec : ChangeSpec := { name := "fnExactCodeName", fn := fun _ => fun
  | [d] => { results := [.lit (.bool true)], args := [d] }
  | _ => none }
def fnExactCodeNameRow : OpenClaim := { program := "ytfmoekfeajfidaa", sum := "87b80ff56704e9acd93e06a729fd5d70999e2ef05756dab1aad9faeae22b4fc7", func := "loop.example/g01085/laws.FnExactCodeName", spec := "fnExactCodeName", apart := false }
def FnExactCodeNameSaid : Prop := fnExactCodeNameRow.holds Try.pinned (OpenSpec.ofChange fnExactCodeNameSpec)

/-- ITS FALSE NEIGHBOUR: 'it returns false'. Refute it at one input. -/
def fnExactCodeNameWrong : ChangeSpec := { name := "fnExactCodeName", fn := fun _ => fun
  | [d] => { results := [.lit (.bool false)], args := [d] }
  | _ => none }
def FnExactCodeNameWrongFalsely : Prop := fnExactCodeNameRow.holds Try.pinned (OpenSpec.ofChange fnExactCodeNameWrong)

/-- 'laws.FnExactSameOp': WHATEVER THE INPUT: true; the input reads as it did. -/
def fnExactSameOpSpec : ChangeSpec := { name := "fnExactSameOp", fn := fun _ => fun
  | [d1, d2] => { results := [.lit (.bool true)], args := [d1, d2] }
  | _ => none }
def fnExactSameOpRow : OpenClaim := { program := "ytfmoekfeajfidaa", sum := "87b80ff56704e9acd93e06a729fd5d70999e2ef05756dab1aad9faeae22b4fc7", func := "loop.example/g01085/laws.FnExactSameOp", spec := "fnExactSameOp", apart := false }
def FnExactSameOpSaid : Prop := fnExactSameOpRow.holds Try.pinned (OpenSpec.ofChange fnExactSameOpSpec)

/-- ITS FALSE NEIGHBOUR: 'it returns false'. Refute it at one input. -/
def fnExactSameOpWrong : ChangeSpec := { name := "fnExactSameOp", fn := fun _ => fun
  | [d1, d2] => { results := [.lit (.bool false)], args := [d1, d2] }
  | _ => none }
def FnExactSameOpWrongFalsely : Prop := fnExactSameOpRow.holds Try.pinned (OpenSpec.ofChange fnExactSameOpWrong)

/-- 'laws.FnExactValidOp': WHATEVER THE INPUT: true; the input reads as it did. -/
def fnExactValidOpSpec : ChangeSpec := { name := "fnExactValidOp", fn := fun _ => fun
  | [d1, d2] => { results := [.lit (.bool true)], args := [d1, d2] }
  | _ => none }
def fnExactValidOpRow : OpenClaim := { program := "ytfmoekfeajfidaa", sum := "87b80ff56704e9acd93e06a729fd5d70999e2ef05756dab1aad9faeae22b4fc7", func := "loop.example/g01085/laws.FnExactValidOp", spec := "fnExactValidOp", unfollowed := true, recurses := true, apart := false }
def FnExactValidOpSaid : Prop := fnExactValidOpRow.holds Try.pinned (OpenSpec.ofChange fnExactValidOpSpec)

/-- ITS FALSE NEIGHBOUR: 'it returns false'. Refute it at one input. -/
def fnExactValidOpWrong : ChangeSpec := { name := "fnExactValidOp", fn := fun _ => fun
  | [d1, d2] => { results := [.lit (.bool false)], args := [d1, d2] }
  | _ => none }
def FnExactValidOpWrongFalsely : Prop := fnExactValidOpRow.holds Try.pinned (OpenSpec.ofChange fnExactValidOpWrong)

/-- 'laws.FnExactConstantOp': WHATEVER THE INPUT: true; the input reads as it did. -/
def fnExactConstantOpSpec : ChangeSpec := { name := "fnExactConstantOp", fn := fun _ => fun
  | [d1, d2, d3] => { results := [.lit (.bool true)], args := [d1, d2, d3] }
  | _ => none }
def fnExactConstantOpRow : OpenClaim := { program := "ytfmoekfeajfidaa", sum := "87b80ff56704e9acd93e06a729fd5d70999e2ef05756dab1aad9faeae22b4fc7", func := "loop.example/g01085/laws.FnExactConstantOp", spec := "fnExactConstantOp", unfollowed := true, recurses := true, apart := false }
def FnExactConstantOpSaid : Prop := fnExactConstantOpRow.holds Try.pinned (OpenSpec.ofChange fnExactConstantOpSpec)

/-- ITS FALSE NEIGHBOUR: 'it returns false'. Refute it at one input. -/
def fnExactConstantOpWrong : ChangeSpec := { name := "fnExactConstantOp", fn := fun _ => fun
  | [d1, d2, d3] => { results := [.lit (.bool false)], args := [d1, d2, d3] }
  | _ => none }
def FnExactConstantOpWrongFalsely : Prop := fnExactConstantOpRow.holds Try.pinned (OpenSpec.ofChange fnExactConstantOpWrong)

/-- 'laws.FnExactProjectionOp': WHATEVER THE INPUT: true; the input reads as it did. -/
def fnExactProjectionOpSpec : ChangeSpec := { name := "fnExactProjectionOp", fn := fun _ => fun
  | [d1, d2, d3] => { results := [.lit (.bool true)], args := [d1, d2, d3] }
  | _ => none }
def fnExactProjectionOpRow : OpenClaim := { program := "ytfmoekfeajfidaa", sum := "87b80ff56704e9acd93e06a729fd5d70999e2ef05756dab1aad9faeae22b4fc7", func := "loop.example/g01085/laws.FnExactProjectionOp", spec := "fnExactProjectionOp", unfollowed := true, recurses := true, apart := false }
def FnExactProjectionOpSaid : Prop := fnExactProjectionOpRow.holds Try.pinned (OpenSpec.ofChange fnExactProjectionOpSpec)

/-- ITS FALSE NEIGHBOUR: 'it returns false'. Refute it at one input. -/
def fnExactProjectionOpWrong : ChangeSpec := { name := "fnExactProjectionOp", fn := fun _ => fun
  | [d1, d2, d3] => { results := [.lit (.bool false)], args := [d1, d2, d3] }
  | _ => none }
def FnExactProjectionOpWrongFalsely : Prop := fnExactProjectionOpRow.holds Try.pinned (OpenSpec.ofChange fnExactProjectionOpWrong)

/-- 'laws.FnExactApplyOp': WHATEVER THE INPUT: true; the input reads as it did. -/
def fnExactApplyOpSpec : ChangeSpec := { name := "fnExactApplyOp", fn := fun _ => fun
  | [d1, d2, d3] => { results := [.lit (.bool true)], args := [d1, d2, d3] }
  | _ => none }
def fnExactApplyOpRow : OpenClaim := { program := "ytfmoekfeajfidaa", sum := "87b80ff56704e9acd93e06a729fd5d70999e2ef05756dab1aad9faeae22b4fc7", func := "loop.example/g01085/laws.FnExactApplyOp", spec := "fnExactApplyOp", unfollowed := true, recurses := true, apart := false }
def FnExactApplyOpSaid : Prop := fnExactApplyOpRow.holds Try.pinned (OpenSpec.ofChange fnExactApplyOpSpec)

/-- ITS FALSE NEIGHBOUR: 'it returns false'. Refute it at one input. -/
def fnExactApplyOpWrong : ChangeSpec := { name := "fnExactApplyOp", fn := fun _ => fun
  | [d1, d2, d3] => { results := [.lit (.bool false)], args := [d1, d2, d3] }
  | _ => none }
def FnExactApplyOpWrongFalsely : Prop := fnExactApplyOpRow.holds Try.pinned (OpenSpec.ofChange fnExactApplyOpWrong)

/-- 'laws.FnExactDependsOn': WHATEVER THE INPUT: true; the input reads as it did. -/
def fnExactDependsOnSpec : ChangeSpec := { name := "fnExactDependsOn", fn := fun _ => fun
  | [d1, d2] => { results := [.lit (.bool true)], args := [d1, d2] }
  | _ => none }
def fnExactDependsOnRow : OpenClaim := { program := "ytfmoekfeajfidaa", sum := "87b80ff56704e9acd93e06a729fd5d70999e2ef05756dab1aad9faeae22b4fc7", func := "loop.example/g01085/laws.FnExactDependsOn", spec := "fnExactDependsOn", unfollowed := true, recurses := true, apart := false }
def FnExactDependsOnSaid : Prop := fnExactDependsOnRow.holds Try.pinned (OpenSpec.ofChange fnExactDependsOnSpec)

/-- ITS FALSE NEIGHBOUR: 'it returns false'. Refute it at one input. -/
def fnExactDependsOnWrong : ChangeSpec := { name := "fnExactDependsOn", fn := fun _ => fun
  | [d1, d2] => { results := [.lit (.bool false)], args := [d1, d2] }
  | _ => none }
def FnExactDependsOnWrongFalsely : Prop := fnExactDependsOnRow.holds Try.pinned (OpenSpec.ofChange fnExactDependsOnWrong)

/-- 'laws.FnExactMinorOf': WHATEVER THE INPUT: true; the input reads as it did. -/
def fnExactMinorOfSpec : ChangeSpec := { name := "fnExactMinorOf", fn := fun _ => fun
  | [d1, d2, d3, d4] => { results := [.lit (.bool true)], args := [d1, d2, d3, d4] }
  | _ => none }
def fnExactMinorOfRow : OpenClaim := { program := "ytfmoekfeajfidaa", sum := "87b80ff56704e9acd93e06a729fd5d70999e2ef05756dab1aad9faeae22b4fc7", func := "loop.example/g01085/laws.FnExactMinorOf", spec := "fnExactMinorOf", unfollowed := true, recurses := true, apart := false }
def FnExactMinorOfSaid : Prop := fnExactMinorOfRow.holds Try.pinned (OpenSpec.ofChange fnExactMinorOfSpec)

/-- ITS FALSE NEIGHBOUR: 'it returns false'. Refute it at one input. -/
def fnExactMinorOfWrong : ChangeSpec := { name := "fnExactMinorOf", fn := fun _ => fun
  | [d1, d2, d3, d4] => { results := [.lit (.bool false)], args := [d1, d2, d3, d4] }
  | _ => none }
def FnExactMinorOfWrongFalsely : Prop := fnExactMinorOfRow.holds Try.pinned (OpenSpec.ofChange fnExactMinorOfWrong)

/-- 'laws.FnExactComposeOps': WHATEVER THE INPUT: true; the input reads as it did. -/
def fnExactComposeOpsSpec : ChangeSpec := { name := "fnExactComposeOps", fn := fun _ => fun
  | [d1, d2, d3] => { results := [.lit (.bool true)], args := [d1, d2, d3] }
  | _ => none }
def fnExactComposeOpsRow : OpenClaim := { program := "ytfmoekfeajfidaa", sum := "87b80ff56704e9acd93e06a729fd5d70999e2ef05756dab1aad9faeae22b4fc7", func := "loop.example/g01085/laws.FnExactComposeOps", spec := "fnExactComposeOps", unfollowed := true, recurses := true, apart := false }
def FnExactComposeOpsSaid : Prop := fnExactComposeOpsRow.holds Try.pinned (OpenSpec.ofChange fnExactComposeOpsSpec)

/-- ITS FALSE NEIGHBOUR: 'it returns false'. Refute it at one input. -/
def fnExactComposeOpsWrong : ChangeSpec := { name := "fnExactComposeOps", fn := fun _ => fun
  | [d1, d2, d3] => { results := [.lit (.bool false)], args := [d1, d2, d3] }
  | _ => none }
def FnExactComposeOpsWrongFalsely : Prop := fnExactComposeOpsRow.holds Try.pinned (OpenSpec.ofChange fnExactComposeOpsWrong)

/-- 'laws.FnExactApplyToTuples': WHATEVER THE INPUT: true; the input reads as it did. -/
def fnExactApplyToTuplesSpec : ChangeSpec := { name := "fnExactApplyToTuples", fn := fun _ => fun
  | [d1, d2, d3] => { results := [.lit (.bool true)], args := [d1, d2, d3] }
  | _ => none }
def fnExactApplyToTuplesRow : OpenClaim := { program := "ytfmoekfeajfidaa", sum := "87b80ff56704e9acd93e06a729fd5d70999e2ef05756dab1aad9faeae22b4fc7", func := "loop.example/g01085/laws.FnExactApplyToTuples", spec := "fnExactApplyToTuples", unfollowed := true, recurses := true, apart := false }
def FnExactApplyToTuplesSaid : Prop := fnExactApplyToTuplesRow.holds Try.pinned (OpenSpec.ofChange fnExactApplyToTuplesSpec)

/-- ITS FALSE NEIGHBOUR: 'it returns false'. Refute it at one input. -/
def fnExactApplyToTuplesWrong : ChangeSpec := { name := "fnExactApplyToTuples", fn := fun _ => fun
  | [d1, d2, d3] => { results := [.lit (.bool false)], args := [d1, d2, d3] }
  | _ => none }
def FnExactApplyToTuplesWrongFalsely : Prop := fnExactApplyToTuplesRow.holds Try.pinned (OpenSpec.ofChange fnExactApplyToTuplesWrong)

/- THE SECOND FORM. 'bulk': how many values and letters a reading holds, each counted each time it is reached (what is shared counts as often as it is met; a slice's spare places count too). A statement '..UptoSaid' is the law's where the arguments, and the package variables that the reading takes, are together of bulk at most 1048576: NARROWER than '..Said'. Prove '..Said' where nothing that the law and all that it calls make is longer than what came in: it says more and counts as full. Else prove '..UptoSaid'. A law counts once. -/
mutual
def uptoBulk {H : Type} : DataW H → Nat
  | .lit (.string bytes) => bytes.length + 1
  | .lit _ => 1
  | .nil => 1
  | .ptr d => uptoBulk d + 1
  | .slice elems spare => uptoBulkAll elems + uptoBulkAll spare + 1
  | .agg parts => uptoBulkAll parts + 1
  | .iface _ d => uptoBulk d + 1
  | .map entries => uptoBulkEntries entries + 1
  | .held _ => 1
def uptoBulkAll {H : Type} : List (DataW H) → Nat
  | [] => 0
  | d :: r => uptoBulk d + uptoBulkAll r
def uptoBulkEntries {H : Type} : List (Lit × DataW H) → Nat
  | [] => 0
  | x :: r => uptoBulkEntry x + uptoBulkEntries r
def uptoBulkEntry {H : Type} : Lit × DataW H → Nat
  | (.string bytes, d) => bytes.length + uptoBulk d + 1
  | (_, d) => uptoBulk d + 1
 end
def uptoSmall : (H : Type) → List (DataW H) → Bool := fun _ ds => decide (uptoBulkAll ds ≤ 1048576)
def OpenSpec.upto (s : _root_.Go.ChangeSpec) : _root_.Go.OpenSpec := { _root_.Go.OpenSpec.ofChange s with cond := some uptoSmall }

/-- 'laws.FnExactConstants', WHERE WHAT IT READS IS OF BULK AT MOST 1048576: true; the input reads as it did. -/
def fnExactConstantsUptoRow : OpenClaim := { program := "ytfmoekfeajfidaa", sum := "87b80ff56704e9acd93e06a729fd5d70999e2ef05756dab1aad9faeae22b4fc7", func := "loop.example/g01085/laws.FnExactConstants", spec := "fnExactConstants", apart := false, narrowed := true }
def FnExactConstantsUptoSaid : Prop := fnExactConstantsUptoRow.holds Try.pinned (OpenSpec.upto fnExactConstantsSpec)

/-- 'laws.FnExactCodeName', WHERE WHAT IT READS IS OF BULK AT MOST 1048576: true; the input reads as it did. -/
def fnExactCodeNameUptoRow : OpenClaim := { program := "ytfmoekfeajfidaa", sum := "87b80ff56704e9acd93e06a729fd5d70999e2ef05756dab1aad9faeae22b4fc7", func := "loop.example/g01085/laws.FnExactCodeName", spec := "fnExactCodeName", apart := false, narrowed := true }
def FnExactCodeNameUptoSaid : Prop := fnExactCodeNameUptoRow.holds Try.pinned (OpenSpec.upto fnExactCodeNameSpec)

/-- 'laws.FnExactSameOp', WHERE WHAT IT READS IS OF BULK AT MOST 1048576: true; the input reads as it did. -/
def fnExactSameOpUptoRow : OpenClaim := { program := "ytfmoekfeajfidaa", sum := "87b80ff56704e9acd93e06a729fd5d70999e2ef05756dab1aad9faeae22b4fc7", func := "loop.example/g01085/laws.FnExactSameOp", spec := "fnExactSameOp", apart := false, narrowed := true }
def FnExactSameOpUptoSaid : Prop := fnExactSameOpUptoRow.holds Try.pinned (OpenSpec.upto fnExactSameOpSpec)

/-- 'laws.FnExactValidOp', WHERE WHAT IT READS IS OF BULK AT MOST 1048576: true; the input reads as it did. -/
def fnExactValidOpUptoRow : OpenClaim := { program := "ytfmoekfeajfidaa", sum := "87b80ff56704e9acd93e06a729fd5d70999e2ef05756dab1aad9faeae22b4fc7", func := "loop.example/g01085/laws.FnExactValidOp", spec := "fnExactValidOp", unfollowed := true, recurses := true, apart := false, narrowed := true }
def FnExactValidOpUptoSaid : Prop := fnExactValidOpUptoRow.holds Try.pinned (OpenSpec.upto fnExactValidOpSpec)

/-- 'laws.FnExactConstantOp', WHERE WHAT IT READS IS OF BULK AT MOST 1048576: true; the input reads as it did. -/
def fnExactConstantOpUptoRow : OpenClaim := { program := "ytfmoekfeajfidaa", sum := "87b80ff56704e9acd93e06a729fd5d70999e2ef05756dab1aad9faeae22b4fc7", func := "loop.example/g01085/laws.FnExactConstantOp", spec := "fnExactConstantOp", unfollowed := true, recurses := true, apart := false, narrowed := true }
def FnExactConstantOpUptoSaid : Prop := fnExactConstantOpUptoRow.holds Try.pinned (OpenSpec.upto fnExactConstantOpSpec)

/-- 'laws.FnExactProjectionOp', WHERE WHAT IT READS IS OF BULK AT MOST 1048576: true; the input reads as it did. -/
def fnExactProjectionOpUptoRow : OpenClaim := { program := "ytfmoekfeajfidaa", sum := "87b80ff56704e9acd93e06a729fd5d70999e2ef05756dab1aad9faeae22b4fc7", func := "loop.example/g01085/laws.FnExactProjectionOp", spec := "fnExactProjectionOp", unfollowed := true, recurses := true, apart := false, narrowed := true }
def FnExactProjectionOpUptoSaid : Prop := fnExactProjectionOpUptoRow.holds Try.pinned (OpenSpec.upto fnExactProjectionOpSpec)

/-- 'laws.FnExactApplyOp', WHERE WHAT IT READS IS OF BULK AT MOST 1048576: true; the input reads as it did. -/
def fnExactApplyOpUptoRow : OpenClaim := { program := "ytfmoekfeajfidaa", sum := "87b80ff56704e9acd93e06a729fd5d70999e2ef05756dab1aad9faeae22b4fc7", func := "loop.example/g01085/laws.FnExactApplyOp", spec := "fnExactApplyOp", unfollowed := true, recurses := true, apart := false, narrowed := true }
def FnExactApplyOpUptoSaid : Prop := fnExactApplyOpUptoRow.holds Try.pinned (OpenSpec.upto fnExactApplyOpSpec)

/-- 'laws.FnExactDependsOn', WHERE WHAT IT READS IS OF BULK AT MOST 1048576: true; the input reads as it did. -/
def fnExactDependsOnUptoRow : OpenClaim := { program := "ytfmoekfeajfidaa", sum := "87b80ff56704e9acd93e06a729fd5d70999e2ef05756dab1aad9faeae22b4fc7", func := "loop.example/g01085/laws.FnExactDependsOn", spec := "fnExactDependsOn", unfollowed := true, recurses := true, apart := false, narrowed := true }
def FnExactDependsOnUptoSaid : Prop := fnExactDependsOnUptoRow.holds Try.pinned (OpenSpec.upto fnExactDependsOnSpec)

/-- 'laws.FnExactMinorOf', WHERE WHAT IT READS IS OF BULK AT MOST 1048576: true; the input reads as it did. -/
def fnExactMinorOfUptoRow : OpenClaim := { program := "ytfmoekfeajfidaa", sum := "87b80ff56704e9acd93e06a729fd5d70999e2ef05756dab1aad9faeae22b4fc7", func := "loop.example/g01085/laws.FnExactMinorOf", spec := "fnExactMinorOf", unfollowed := true, recurses := true, apart := false, narrowed := true }
def FnExactMinorOfUptoSaid : Prop := fnExactMinorOfUptoRow.holds Try.pinned (OpenSpec.upto fnExactMinorOfSpec)

/-- 'laws.FnExactComposeOps', WHERE WHAT IT READS IS OF BULK AT MOST 1048576: true; the input reads as it did. -/
def fnExactComposeOpsUptoRow : OpenClaim := { program := "ytfmoekfeajfidaa", sum := "87b80ff56704e9acd93e06a729fd5d70999e2ef05756dab1aad9faeae22b4fc7", func := "loop.example/g01085/laws.FnExactComposeOps", spec := "fnExactComposeOps", unfollowed := true, recurses := true, apart := false, narrowed := true }
def FnExactComposeOpsUptoSaid : Prop := fnExactComposeOpsUptoRow.holds Try.pinned (OpenSpec.upto fnExactComposeOpsSpec)

/-- 'laws.FnExactApplyToTuples', WHERE WHAT IT READS IS OF BULK AT MOST 1048576: true; the input reads as it did. -/
def fnExactApplyToTuplesUptoRow : OpenClaim := { program := "ytfmoekfeajfidaa", sum := "87b80ff56704e9acd93e06a729fd5d70999e2ef05756dab1aad9faeae22b4fc7", func := "loop.example/g01085/laws.FnExactApplyToTuples", spec := "fnExactApplyToTuples", unfollowed := true, recurses := true, apart := false, narrowed := true }
def FnExactApplyToTuplesUptoSaid : Prop := fnExactApplyToTuplesUptoRow.holds Try.pinned (OpenSpec.upto fnExactApplyToTuplesSpec)

end Rows
end Go.Proofs.Ytfmoekfeajfidaa
