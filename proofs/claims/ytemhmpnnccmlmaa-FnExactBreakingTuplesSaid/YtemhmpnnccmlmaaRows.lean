/-
  No cell of these rows narrows 'for every input' (looked for: loops, veiled, ifaces, maps, wideKeys, modest, calm, conditions, laid).
  DERIVED. THE GIVEN ROWS OF THIS SEAT. 10 by the template 'for every input the law returns true; each argument reads behind the call as it read before'; 0 by the template 'total and deterministic' (their statements: YtemhmpnnccmlmaaTotals.lean).
  GIVEN WITH THE SEED: the statements are not yours to turn. If you find one false, say at which input.
  Laid BY PROGRAM, IN A SANDBOX (cutbox-rows.mjs): the forced cells as the released guide's own fill.sh prints them over the translation c75dd2c3a6a208fb… (all of the seat's roots in one cut). By AI agents, Wed Nov 11 2026. No macro, syntax, notation, axiom, sorry.
-/
import Derived.Test.YtemhmpnnccmlmaaChecked
import GoSem.Claim
import GoSem.ClaimJoined
import GoSem.ClaimMapViews
import Derived.JoinedTies
import Derived.KernelRfl
namespace Go.Proofs.Ytemhmpnnccmlmaa
/- THE CELL 'sum', in the pinned program and in every row, IS THE sha256 OF THE DUMP (.gsa) THAT YtemhmpnnccmlmaaProg.lean LOADS. Nothing in Lean hashes anything: it is a label: what it is worth is what the hold of that sum in a sandbox is worth. -/
noncomputable def Try.pinned : Pinned := { name := "ytemhmpnnccmlmaa", sum := "c75dd2c3a6a208fb259718f7ba2ec302269ffd6130ea8b788d6f089070ec7183", checked := Try.checked }
namespace Rows
def none {H : Type} : Left H := { results := [], args := [] }

/-- 'laws.FnExactPlaceRel': WHATEVER THE INPUT: true; the input reads as it did. -/
def fnExactPlaceRelSpec : ChangeSpec := { name := "fnExactPlaceRel", fn := fun _ => fun
  | [d1, d2, d3, d4] => { results := [.lit (.bool true)], args := [d1, d2, d3, d4] }
  | _ => none }
def fnExactPlaceRelRow : OpenClaim := { program := "ytemhmpnnccmlmaa", sum := "c75dd2c3a6a208fb259718f7ba2ec302269ffd6130ea8b788d6f089070ec7183", func := "loop.example/g01085/laws.FnExactPlaceRel", spec := "fnExactPlaceRel", unfollowed := true, recurses := true, apart := false }
def FnExactPlaceRelSaid : Prop := fnExactPlaceRelRow.holds Try.pinned (OpenSpec.ofChange fnExactPlaceRelSpec)

/-- ITS FALSE NEIGHBOUR: 'it returns false'. Refute it at one input. -/
def fnExactPlaceRelWrong : ChangeSpec := { name := "fnExactPlaceRel", fn := fun _ => fun
  | [d1, d2, d3, d4] => { results := [.lit (.bool false)], args := [d1, d2, d3, d4] }
  | _ => none }
def FnExactPlaceRelWrongFalsely : Prop := fnExactPlaceRelRow.holds Try.pinned (OpenSpec.ofChange fnExactPlaceRelWrong)

/-- 'laws.FnExactGraphOfOp': WHATEVER THE INPUT: true; the input reads as it did. -/
def fnExactGraphOfOpSpec : ChangeSpec := { name := "fnExactGraphOfOp", fn := fun _ => fun
  | [d1, d2] => { results := [.lit (.bool true)], args := [d1, d2] }
  | _ => none }
def fnExactGraphOfOpRow : OpenClaim := { program := "ytemhmpnnccmlmaa", sum := "c75dd2c3a6a208fb259718f7ba2ec302269ffd6130ea8b788d6f089070ec7183", func := "loop.example/g01085/laws.FnExactGraphOfOp", spec := "fnExactGraphOfOp", unfollowed := true, recurses := true, apart := false }
def FnExactGraphOfOpSaid : Prop := fnExactGraphOfOpRow.holds Try.pinned (OpenSpec.ofChange fnExactGraphOfOpSpec)

/-- ITS FALSE NEIGHBOUR: 'it returns false'. Refute it at one input. -/
def fnExactGraphOfOpWrong : ChangeSpec := { name := "fnExactGraphOfOp", fn := fun _ => fun
  | [d1, d2] => { results := [.lit (.bool false)], args := [d1, d2] }
  | _ => none }
def FnExactGraphOfOpWrongFalsely : Prop := fnExactGraphOfOpRow.holds Try.pinned (OpenSpec.ofChange fnExactGraphOfOpWrong)

/-- 'laws.FnExactOpOfGraph': WHATEVER THE INPUT: true; the input reads as it did. -/
def fnExactOpOfGraphSpec : ChangeSpec := { name := "fnExactOpOfGraph", fn := fun _ => fun
  | [d1, d2] => { results := [.lit (.bool true)], args := [d1, d2] }
  | _ => none }
def fnExactOpOfGraphRow : OpenClaim := { program := "ytemhmpnnccmlmaa", sum := "c75dd2c3a6a208fb259718f7ba2ec302269ffd6130ea8b788d6f089070ec7183", func := "loop.example/g01085/laws.FnExactOpOfGraph", spec := "fnExactOpOfGraph", unfollowed := true, recurses := true, apart := false }
def FnExactOpOfGraphSaid : Prop := fnExactOpOfGraphRow.holds Try.pinned (OpenSpec.ofChange fnExactOpOfGraphSpec)

/-- ITS FALSE NEIGHBOUR: 'it returns false'. Refute it at one input. -/
def fnExactOpOfGraphWrong : ChangeSpec := { name := "fnExactOpOfGraph", fn := fun _ => fun
  | [d1, d2] => { results := [.lit (.bool false)], args := [d1, d2] }
  | _ => none }
def FnExactOpOfGraphWrongFalsely : Prop := fnExactOpOfGraphRow.holds Try.pinned (OpenSpec.ofChange fnExactOpOfGraphWrong)

/-- 'laws.FnExactKeeps': WHATEVER THE INPUT: true; the input reads as it did. -/
def fnExactKeepsSpec : ChangeSpec := { name := "fnExactKeeps", fn := fun _ => fun
  | [d1, d2, d3] => { results := [.lit (.bool true)], args := [d1, d2, d3] }
  | _ => none }
def fnExactKeepsRow : OpenClaim := { program := "ytemhmpnnccmlmaa", sum := "c75dd2c3a6a208fb259718f7ba2ec302269ffd6130ea8b788d6f089070ec7183", func := "loop.example/g01085/laws.FnExactKeeps", spec := "fnExactKeeps", unfollowed := true, recurses := true, apart := false }
def FnExactKeepsSaid : Prop := fnExactKeepsRow.holds Try.pinned (OpenSpec.ofChange fnExactKeepsSpec)

/-- ITS FALSE NEIGHBOUR: 'it returns false'. Refute it at one input. -/
def fnExactKeepsWrong : ChangeSpec := { name := "fnExactKeeps", fn := fun _ => fun
  | [d1, d2, d3] => { results := [.lit (.bool false)], args := [d1, d2, d3] }
  | _ => none }
def FnExactKeepsWrongFalsely : Prop := fnExactKeepsRow.holds Try.pinned (OpenSpec.ofChange fnExactKeepsWrong)

/-- 'laws.FnExactBreakingTuples': WHATEVER THE INPUT: true; the input reads as it did. -/
def fnExactBreakingTuplesSpec : ChangeSpec := { name := "fnExactBreakingTuples", fn := fun _ => fun
  | [d1, d2, d3] => { results := [.lit (.bool true)], args := [d1, d2, d3] }
  | _ => none }
def fnExactBreakingTuplesRow : OpenClaim := { program := "ytemhmpnnccmlmaa", sum := "c75dd2c3a6a208fb259718f7ba2ec302269ffd6130ea8b788d6f089070ec7183", func := "loop.example/g01085/laws.FnExactBreakingTuples", spec := "fnExactBreakingTuples", unfollowed := true, recurses := true, apart := false }
def FnExactBreakingTuplesSaid : Prop := fnExactBreakingTuplesRow.holds Try.pinned (OpenSpec.ofChange fnExactBreakingTuplesSpec)

/-- ITS FALSE NEIGHBOUR: 'it returns false'. Refute it at one input. -/
def fnExactBreakingTuplesWrong : ChangeSpec := { name := "fnExactBreakingTuples", fn := fun _ => fun
  | [d1, d2, d3] => { results := [.lit (.bool false)], args := [d1, d2, d3] }
  | _ => none }
def FnExactBreakingTuplesWrongFalsely : Prop := fnExactBreakingTuplesRow.holds Try.pinned (OpenSpec.ofChange fnExactBreakingTuplesWrong)

/-- 'laws.FnExactKeepsAll': WHATEVER THE INPUT: true; the input reads as it did. -/
def fnExactKeepsAllSpec : ChangeSpec := { name := "fnExactKeepsAll", fn := fun _ => fun
  | [d1, d2] => { results := [.lit (.bool true)], args := [d1, d2] }
  | _ => none }
def fnExactKeepsAllRow : OpenClaim := { program := "ytemhmpnnccmlmaa", sum := "c75dd2c3a6a208fb259718f7ba2ec302269ffd6130ea8b788d6f089070ec7183", func := "loop.example/g01085/laws.FnExactKeepsAll", spec := "fnExactKeepsAll", unfollowed := true, recurses := true, apart := false }
def FnExactKeepsAllSaid : Prop := fnExactKeepsAllRow.holds Try.pinned (OpenSpec.ofChange fnExactKeepsAllSpec)

/-- ITS FALSE NEIGHBOUR: 'it returns false'. Refute it at one input. -/
def fnExactKeepsAllWrong : ChangeSpec := { name := "fnExactKeepsAll", fn := fun _ => fun
  | [d1, d2] => { results := [.lit (.bool false)], args := [d1, d2] }
  | _ => none }
def FnExactKeepsAllWrongFalsely : Prop := fnExactKeepsAllRow.holds Try.pinned (OpenSpec.ofChange fnExactKeepsAllWrong)

/-- 'laws.FnExactSameTemplate': WHATEVER THE INPUT: true; the input reads as it did. -/
def fnExactSameTemplateSpec : ChangeSpec := { name := "fnExactSameTemplate", fn := fun _ => fun
  | [d1, d2] => { results := [.lit (.bool true)], args := [d1, d2] }
  | _ => none }
def fnExactSameTemplateRow : OpenClaim := { program := "ytemhmpnnccmlmaa", sum := "c75dd2c3a6a208fb259718f7ba2ec302269ffd6130ea8b788d6f089070ec7183", func := "loop.example/g01085/laws.FnExactSameTemplate", spec := "fnExactSameTemplate", unfollowed := true, recurses := true, apart := false }
def FnExactSameTemplateSaid : Prop := fnExactSameTemplateRow.holds Try.pinned (OpenSpec.ofChange fnExactSameTemplateSpec)

/-- ITS FALSE NEIGHBOUR: 'it returns false'. Refute it at one input. -/
def fnExactSameTemplateWrong : ChangeSpec := { name := "fnExactSameTemplate", fn := fun _ => fun
  | [d1, d2] => { results := [.lit (.bool false)], args := [d1, d2] }
  | _ => none }
def FnExactSameTemplateWrongFalsely : Prop := fnExactSameTemplateRow.holds Try.pinned (OpenSpec.ofChange fnExactSameTemplateWrong)

/-- 'laws.FnExactValidTemplate': WHATEVER THE INPUT: true; the input reads as it did. -/
def fnExactValidTemplateSpec : ChangeSpec := { name := "fnExactValidTemplate", fn := fun _ => fun
  | [d] => { results := [.lit (.bool true)], args := [d] }
  | _ => none }
def fnExactValidTemplateRow : OpenClaim := { program := "ytemhmpnnccmlmaa", sum := "c75dd2c3a6a208fb259718f7ba2ec302269ffd6130ea8b788d6f089070ec7183", func := "loop.example/g01085/laws.FnExactValidTemplate", spec := "fnExactValidTemplate", unfollowed := true, recurses := true, apart := false }
def FnExactValidTemplateSaid : Prop := fnExactValidTemplateRow.holds Try.pinned (OpenSpec.ofChange fnExactValidTemplateSpec)

/-- ITS FALSE NEIGHBOUR: 'it returns false'. Refute it at one input. -/
def fnExactValidTemplateWrong : ChangeSpec := { name := "fnExactValidTemplate", fn := fun _ => fun
  | [d] => { results := [.lit (.bool false)], args := [d] }
  | _ => none }
def FnExactValidTemplateWrongFalsely : Prop := fnExactValidTemplateRow.holds Try.pinned (OpenSpec.ofChange fnExactValidTemplateWrong)

/-- 'laws.FnExactIsMapOf': WHATEVER THE INPUT: true; the input reads as it did. -/
def fnExactIsMapOfSpec : ChangeSpec := { name := "fnExactIsMapOf", fn := fun _ => fun
  | [d1, d2, d3] => { results := [.lit (.bool true)], args := [d1, d2, d3] }
  | _ => none }
def fnExactIsMapOfRow : OpenClaim := { program := "ytemhmpnnccmlmaa", sum := "c75dd2c3a6a208fb259718f7ba2ec302269ffd6130ea8b788d6f089070ec7183", func := "loop.example/g01085/laws.FnExactIsMapOf", spec := "fnExactIsMapOf", unfollowed := true, recurses := true, apart := false }
def FnExactIsMapOfSaid : Prop := fnExactIsMapOfRow.holds Try.pinned (OpenSpec.ofChange fnExactIsMapOfSpec)

/-- ITS FALSE NEIGHBOUR: 'it returns false'. Refute it at one input. -/
def fnExactIsMapOfWrong : ChangeSpec := { name := "fnExactIsMapOf", fn := fun _ => fun
  | [d1, d2, d3] => { results := [.lit (.bool false)], args := [d1, d2, d3] }
  | _ => none }
def FnExactIsMapOfWrongFalsely : Prop := fnExactIsMapOfRow.holds Try.pinned (OpenSpec.ofChange fnExactIsMapOfWrong)

/-- 'laws.FnExactFirstMap': WHATEVER THE INPUT: true; the input reads as it did. -/
def fnExactFirstMapSpec : ChangeSpec := { name := "fnExactFirstMap", fn := fun _ => fun
  | [d1, d2] => { results := [.lit (.bool true)], args := [d1, d2] }
  | _ => none }
def fnExactFirstMapRow : OpenClaim := { program := "ytemhmpnnccmlmaa", sum := "c75dd2c3a6a208fb259718f7ba2ec302269ffd6130ea8b788d6f089070ec7183", func := "loop.example/g01085/laws.FnExactFirstMap", spec := "fnExactFirstMap", unfollowed := true, recurses := true, apart := false }
def FnExactFirstMapSaid : Prop := fnExactFirstMapRow.holds Try.pinned (OpenSpec.ofChange fnExactFirstMapSpec)

/-- ITS FALSE NEIGHBOUR: 'it returns false'. Refute it at one input. -/
def fnExactFirstMapWrong : ChangeSpec := { name := "fnExactFirstMap", fn := fun _ => fun
  | [d1, d2] => { results := [.lit (.bool false)], args := [d1, d2] }
  | _ => none }
def FnExactFirstMapWrongFalsely : Prop := fnExactFirstMapRow.holds Try.pinned (OpenSpec.ofChange fnExactFirstMapWrong)

/- THE SECOND FORM. 'bulk': how many values and letters a reading holds, each counted each time it is reached (what is shared counts as often as it is met; a slice's spare places count too). A statement '..UptoSaid' is the law's where the arguments, and the package variables that the reading takes, are together of bulk at most 1048576: NARROWER than '..Said'. Prove '..Said' where nothing that the law and all that it calls make is longer than what came in: it says more and counts as full. Else prove '..UptoSaid'. A law counts once. -/
mutual
def uptoBulk {H : Type} : DataW H → Nat
  | .lit (.string bytes) => bytes.length + 1
  | .lit _ => 1
  | .nil => 1
  | .ptr d => uptoBulk d + 1
  | .slice elems spare => uptoBulkAll elems + uptoBulkAll spare + 1
  | .agg parts => uptoBulkAll parts + 1
  | .iface _ d => uptoBulk d + 1
  | .map entries => uptoBulkEntries entries + 1
  | .held _ => 1
def uptoBulkAll {H : Type} : List (DataW H) → Nat
  | [] => 0
  | d :: r => uptoBulk d + uptoBulkAll r
def uptoBulkEntries {H : Type} : List (Lit × DataW H) → Nat
  | [] => 0
  | x :: r => uptoBulkEntry x + uptoBulkEntries r
def uptoBulkEntry {H : Type} : Lit × DataW H → Nat
  | (.string bytes, d) => bytes.length + uptoBulk d + 1
  | (_, d) => uptoBulk d + 1
 end
def uptoSmall : (H : Type) → List (DataW H) → Bool := fun _ ds => decide (uptoBulkAll ds ≤ 1048576)
def OpenSpec.upto (s : _root_.Go.ChangeSpec) : _root_.Go.OpenSpec := { _root_.Go.OpenSpec.ofChange s with cond := some uptoSmall }

/-- 'laws.FnExactPlaceRel', WHERE WHAT IT READS IS OF BULK AT MOST 1048576: true; the input reads as it did. -/
def fnExactPlaceRelUptoRow : OpenClaim := { program := "ytemhmpnnccmlmaa", sum := "c75dd2c3a6a208fb259718f7ba2ec302269ffd6130ea8b788d6f089070ec7183", func := "loop.example/g01085/laws.FnExactPlaceRel", spec := "fnExactPlaceRel", unfollowed := true, recurses := true, apart := false, narrowed := true }
def FnExactPlaceRelUptoSaid : Prop := fnExactPlaceRelUptoRow.holds Try.pinned (OpenSpec.upto fnExactPlaceRelSpec)

/-- 'laws.FnExactGraphOfOp', WHERE WHAT IT READS IS OF BULK AT MOST 1048576: true; the input reads as it did. -/
def fnExactGraphOfOpUptoRow : OpenClaim := { program := "ytemhmpnnccmlmaa", sum := "c75dd2c3a6a208fb259718f7ba2ec302269ffd6130ea8b788d6f089070ec7183", func := "loop.example/g01085/laws.FnExactGraphOfOp", spec := "fnExactGraphOfOp", unfollowed := true, recurses := true, apart := false, narrowed := true }
def FnExactGraphOfOpUptoSaid : Prop := fnExactGraphOfOpUptoRow.holds Try.pinned (OpenSpec.upto fnExactGraphOfOpSpec)

/-- 'laws.FnExactOpOfGraph', WHERE WHAT IT READS IS OF BULK AT MOST 1048576: true; the input reads as it did. -/
def fnExactOpOfGraphUptoRow : OpenClaim := { program := "ytemhmpnnccmlmaa", sum := "c75dd2c3a6a208fb259718f7ba2ec302269ffd6130ea8b788d6f089070ec7183", func := "loop.example/g01085/laws.FnExactOpOfGraph", spec := "fnExactOpOfGraph", unfollowed := true, recurses := true, apart := false, narrowed := true }
def FnExactOpOfGraphUptoSaid : Prop := fnExactOpOfGraphUptoRow.holds Try.pinned (OpenSpec.upto fnExactOpOfGraphSpec)

/-- 'laws.FnExactKeeps', WHERE WHAT IT READS IS OF BULK AT MOST 1048576: true; the input reads as it did. -/
def fnExactKeepsUptoRow : OpenClaim := { program := "ytemhmpnnccmlmaa", sum := "c75dd2c3a6a208fb259718f7ba2ec302269ffd6130ea8b788d6f089070ec7183", func := "loop.example/g01085/laws.FnExactKeeps", spec := "fnExactKeeps", unfollowed := true, recurses := true, apart := false, narrowed := true }
def FnExactKeepsUptoSaid : Prop := fnExactKeepsUptoRow.holds Try.pinned (OpenSpec.upto fnExactKeepsSpec)

/-- 'laws.FnExactBreakingTuples', WHERE WHAT IT READS IS OF BULK AT MOST 1048576: true; the input reads as it did. -/
def fnExactBreakingTuplesUptoRow : OpenClaim := { program := "ytemhmpnnccmlmaa", sum := "c75dd2c3a6a208fb259718f7ba2ec302269ffd6130ea8b788d6f089070ec7183", func := "loop.example/g01085/laws.FnExactBreakingTuples", spec := "fnExactBreakingTuples", unfollowed := true, recurses := true, apart := false, narrowed := true }
def FnExactBreakingTuplesUptoSaid : Prop := fnExactBreakingTuplesUptoRow.holds Try.pinned (OpenSpec.upto fnExactBreakingTuplesSpec)

/-- 'laws.FnExactKeepsAll', WHERE WHAT IT READS IS OF BULK AT MOST 1048576: true; the input reads as it did. -/
def fnExactKeepsAllUptoRow : OpenClaim := { program := "ytemhmpnnccmlmaa", sum := "c75dd2c3a6a208fb259718f7ba2ec302269ffd6130ea8b788d6f089070ec7183", func := "loop.example/g01085/laws.FnExactKeepsAll", spec := "fnExactKeepsAll", unfollowed := true, recurses := true, apart := false, narrowed := true }
def FnExactKeepsAllUptoSaid : Prop := fnExactKeepsAllUptoRow.holds Try.pinned (OpenSpec.upto fnExactKeepsAllSpec)

/-- 'laws.FnExactSameTemplate', WHERE WHAT IT READS IS OF BULK AT MOST 1048576: true; the input reads as it did. -/
def fnExactSameTemplateUptoRow : OpenClaim := { program := "ytemhmpnnccmlmaa", sum := "c75dd2c3a6a208fb259718f7ba2ec302269ffd6130ea8b788d6f089070ec7183", func := "loop.example/g01085/laws.FnExactSameTemplate", spec := "fnExactSameTemplate", unfollowed := true, recurses := true, apart := false, narrowed := true }
def FnExactSameTemplateUptoSaid : Prop := fnExactSameTemplateUptoRow.holds Try.pinned (OpenSpec.upto fnExactSameTemplateSpec)

/-- 'laws.FnExactValidTemplate', WHERE WHAT IT READS IS OF BULK AT MOST 1048576: true; the input reads as it did. -/
def fnExactValidTemplateUptoRow : OpenClaim := { program := "ytemhmpnnccmlmaa", sum := "c75dd2c3a6a208fb259718f7ba2ec302269ffd6130ea8b788d6f089070ec7183", func := "loop.example/g01085/laws.FnExactValidTemplate", spec := "fnExactValidTemplate", unfollowed := true, recurses := true, apart := false, narrowed := true }
def FnExactValidTemplateUptoSaid : Prop := fnExactValidTemplateUptoRow.holds Try.pinned (OpenSpec.upto fnExactValidTemplateSpec)

/-- 'laws.FnExactIsMapOf', WHERE WHAT IT READS IS OF BULK AT MOST 1048576: true; the input reads as it did. -/
def fnExactIsMapOfUptoRow : OpenClaim := { program := "ytemhmpnnccmlmaa", sum := "c75dd2c3a6a208fb259718f7ba2ec302269ffd6130ea8b788d6f089070ec7183", func := "loop.example/g01085/laws.FnExactIsMapOf", spec := "fnExactIsMapOf", unfollowed := true, recurses := true, apart := false, narrowed := true }
def FnExactIsMapOfUptoSaid : Prop := fnExactIsMapOfUptoRow.holds Try.pinned (OpenSpec.upto fnExactIsMapOfSpec)

/-- 'laws.FnExactFirstMap', WHERE WHAT IT READS IS OF BULK AT MOST 1048576: true; the input reads as it did. -/
def fnExactFirstMapUptoRow : OpenClaim := { program := "ytemhmpnnccmlmaa", sum := "c75dd2c3a6a208fb259718f7ba2ec302269ffd6130ea8b788d6f089070ec7183", func := "loop.example/g01085/laws.FnExactFirstMap", spec := "fnExactFirstMap", unfollowed := true, recurses := true, apart := false, narrowed := true }
def FnExactFirstMapUptoSaid : Prop := fnExactFirstMapUptoRow.holds Try.pinned (OpenSpec.upto fnExactFirstMapSpec)

end Rows
end Go.Proofs.Ytemhmpnnccmlmaa
