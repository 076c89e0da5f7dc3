/-
  No cell of these rows narrows 'for every input' (looked for: loops, veiled, ifaces, maps, wideKeys, modest, calm, conditions, laid).
  DERIVED. THE GIVEN ROWS OF THIS SEAT. 12 by the template 'for every input the law returns true; each argument reads behind the call as it read before'; 0 by the template 'total and deterministic' (their statements: YtohpjamngpphnaaTotals.lean).
  GIVEN WITH THE SEED: the statements are not yours to turn. If you find one false, say at which input.
  Laid BY PROGRAM, IN A SANDBOX (cutbox-rows.mjs): the forced cells as the released guide's own fill.sh prints them over the translation 3472f855dcbd85ba… (all of the seat's roots in one cut). By AI agents, Wed Nov 11 2026. No macro, syntax, notation, axiom, sorry.
-/
import Derived.Test.YtohpjamngpphnaaChecked
import GoSem.Claim
import GoSem.ClaimJoined
import GoSem.ClaimMapViews
import Derived.JoinedTies
import Derived.KernelRfl
namespace Go.Proofs.Ytohpjamngpphnaa
/- THE CELL 'sum', in the pinned program and in every row, IS THE sha256 OF THE DUMP (.gsa) THAT YtohpjamngpphnaaProg.lean LOADS. Nothing in Lean hashes anything: it is a label: what it is worth is what the hold of that sum in a sandbox is worth. -/
noncomputable def Try.pinned : Pinned := { name := "ytohpjamngpphnaa", sum := "3472f855dcbd85ba620a321ba69a4e41030fa4b52bea90f7946489ac1feefa92", checked := Try.checked }
namespace Rows
def none {H : Type} : Left H := { results := [], args := [] }

/-- 'laws.FnExactEqualRel': WHATEVER THE INPUT: true; the input reads as it did. -/
def fnExactEqualRelSpec : ChangeSpec := { name := "fnExactEqualRel", fn := fun _ => fun
  | [d] => { results := [.lit (.bool true)], args := [d] }
  | _ => none }
def fnExactEqualRelRow : OpenClaim := { program := "ytohpjamngpphnaa", sum := "3472f855dcbd85ba620a321ba69a4e41030fa4b52bea90f7946489ac1feefa92", func := "loop.example/g01085/laws.FnExactEqualRel", spec := "fnExactEqualRel", unfollowed := true, recurses := true, apart := false }
def FnExactEqualRelSaid : Prop := fnExactEqualRelRow.holds Try.pinned (OpenSpec.ofChange fnExactEqualRelSpec)

/-- ITS FALSE NEIGHBOUR: 'it returns false'. Refute it at one input. -/
def fnExactEqualRelWrong : ChangeSpec := { name := "fnExactEqualRel", fn := fun _ => fun
  | [d] => { results := [.lit (.bool false)], args := [d] }
  | _ => none }
def FnExactEqualRelWrongFalsely : Prop := fnExactEqualRelRow.holds Try.pinned (OpenSpec.ofChange fnExactEqualRelWrong)

/-- 'laws.FnExactSameRel': WHATEVER THE INPUT: true; the input reads as it did. -/
def fnExactSameRelSpec : ChangeSpec := { name := "fnExactSameRel", fn := fun _ => fun
  | [d1, d2] => { results := [.lit (.bool true)], args := [d1, d2] }
  | _ => none }
def fnExactSameRelRow : OpenClaim := { program := "ytohpjamngpphnaa", sum := "3472f855dcbd85ba620a321ba69a4e41030fa4b52bea90f7946489ac1feefa92", func := "loop.example/g01085/laws.FnExactSameRel", spec := "fnExactSameRel", unfollowed := true, recurses := true, apart := false }
def FnExactSameRelSaid : Prop := fnExactSameRelRow.holds Try.pinned (OpenSpec.ofChange fnExactSameRelSpec)

/-- ITS FALSE NEIGHBOUR: 'it returns false'. Refute it at one input. -/
def fnExactSameRelWrong : ChangeSpec := { name := "fnExactSameRel", fn := fun _ => fun
  | [d1, d2] => { results := [.lit (.bool false)], args := [d1, d2] }
  | _ => none }
def FnExactSameRelWrongFalsely : Prop := fnExactSameRelRow.holds Try.pinned (OpenSpec.ofChange fnExactSameRelWrong)

/-- 'laws.FnExactFullRel': WHATEVER THE INPUT: true; the input reads as it did. -/
def fnExactFullRelSpec : ChangeSpec := { name := "fnExactFullRel", fn := fun _ => fun
  | [d1, d2] => { results := [.lit (.bool true)], args := [d1, d2] }
  | _ => none }
def fnExactFullRelRow : OpenClaim := { program := "ytohpjamngpphnaa", sum := "3472f855dcbd85ba620a321ba69a4e41030fa4b52bea90f7946489ac1feefa92", func := "loop.example/g01085/laws.FnExactFullRel", spec := "fnExactFullRel", unfollowed := true, recurses := true, apart := false }
def FnExactFullRelSaid : Prop := fnExactFullRelRow.holds Try.pinned (OpenSpec.ofChange fnExactFullRelSpec)

/-- ITS FALSE NEIGHBOUR: 'it returns false'. Refute it at one input. -/
def fnExactFullRelWrong : ChangeSpec := { name := "fnExactFullRel", fn := fun _ => fun
  | [d1, d2] => { results := [.lit (.bool false)], args := [d1, d2] }
  | _ => none }
def FnExactFullRelWrongFalsely : Prop := fnExactFullRelRow.holds Try.pinned (OpenSpec.ofChange fnExactFullRelWrong)

/-- 'laws.FnExactValidRel': WHATEVER THE INPUT: true; the input reads as it did. -/
def fnExactValidRelSpec : ChangeSpec := { name := "fnExactValidRel", fn := fun _ => fun
  | [d1, d2] => { results := [.lit (.bool true)], args := [d1, d2] }
  | _ => none }
def fnExactValidRelRow : OpenClaim := { program := "ytohpjamngpphnaa", sum := "3472f855dcbd85ba620a321ba69a4e41030fa4b52bea90f7946489ac1feefa92", func := "loop.example/g01085/laws.FnExactValidRel", spec := "fnExactValidRel", unfollowed := true, recurses := true, apart := false }
def FnExactValidRelSaid : Prop := fnExactValidRelRow.holds Try.pinned (OpenSpec.ofChange fnExactValidRelSpec)

/-- ITS FALSE NEIGHBOUR: 'it returns false'. Refute it at one input. -/
def fnExactValidRelWrong : ChangeSpec := { name := "fnExactValidRel", fn := fun _ => fun
  | [d1, d2] => { results := [.lit (.bool false)], args := [d1, d2] }
  | _ => none }
def FnExactValidRelWrongFalsely : Prop := fnExactValidRelRow.holds Try.pinned (OpenSpec.ofChange fnExactValidRelWrong)

/-- 'laws.FnExactHasTuple': WHATEVER THE INPUT: true; the input reads as it did. -/
def fnExactHasTupleSpec : ChangeSpec := { name := "fnExactHasTuple", fn := fun _ => fun
  | [d1, d2, d3] => { results := [.lit (.bool true)], args := [d1, d2, d3] }
  | _ => none }
def fnExactHasTupleRow : OpenClaim := { program := "ytohpjamngpphnaa", sum := "3472f855dcbd85ba620a321ba69a4e41030fa4b52bea90f7946489ac1feefa92", func := "loop.example/g01085/laws.FnExactHasTuple", spec := "fnExactHasTuple", unfollowed := true, recurses := true, apart := false }
def FnExactHasTupleSaid : Prop := fnExactHasTupleRow.holds Try.pinned (OpenSpec.ofChange fnExactHasTupleSpec)

/-- ITS FALSE NEIGHBOUR: 'it returns false'. Refute it at one input. -/
def fnExactHasTupleWrong : ChangeSpec := { name := "fnExactHasTuple", fn := fun _ => fun
  | [d1, d2, d3] => { results := [.lit (.bool false)], args := [d1, d2, d3] }
  | _ => none }
def FnExactHasTupleWrongFalsely : Prop := fnExactHasTupleRow.holds Try.pinned (OpenSpec.ofChange fnExactHasTupleWrong)

/-- 'laws.FnExactIsPartOf': WHATEVER THE INPUT: true; the input reads as it did. -/
def fnExactIsPartOfSpec : ChangeSpec := { name := "fnExactIsPartOf", fn := fun _ => fun
  | [d1, d2, d3] => { results := [.lit (.bool true)], args := [d1, d2, d3] }
  | _ => none }
def fnExactIsPartOfRow : OpenClaim := { program := "ytohpjamngpphnaa", sum := "3472f855dcbd85ba620a321ba69a4e41030fa4b52bea90f7946489ac1feefa92", func := "loop.example/g01085/laws.FnExactIsPartOf", spec := "fnExactIsPartOf", unfollowed := true, recurses := true, apart := false }
def FnExactIsPartOfSaid : Prop := fnExactIsPartOfRow.holds Try.pinned (OpenSpec.ofChange fnExactIsPartOfSpec)

/-- ITS FALSE NEIGHBOUR: 'it returns false'. Refute it at one input. -/
def fnExactIsPartOfWrong : ChangeSpec := { name := "fnExactIsPartOf", fn := fun _ => fun
  | [d1, d2, d3] => { results := [.lit (.bool false)], args := [d1, d2, d3] }
  | _ => none }
def FnExactIsPartOfWrongFalsely : Prop := fnExactIsPartOfRow.holds Try.pinned (OpenSpec.ofChange fnExactIsPartOfWrong)

/-- 'laws.FnExactFixPlace': WHATEVER THE INPUT: true; the input reads as it did. -/
def fnExactFixPlaceSpec : ChangeSpec := { name := "fnExactFixPlace", fn := fun _ => fun
  | [d1, d2, d3, d4] => { results := [.lit (.bool true)], args := [d1, d2, d3, d4] }
  | _ => none }
def fnExactFixPlaceRow : OpenClaim := { program := "ytohpjamngpphnaa", sum := "3472f855dcbd85ba620a321ba69a4e41030fa4b52bea90f7946489ac1feefa92", func := "loop.example/g01085/laws.FnExactFixPlace", spec := "fnExactFixPlace", unfollowed := true, recurses := true, apart := false }
def FnExactFixPlaceSaid : Prop := fnExactFixPlaceRow.holds Try.pinned (OpenSpec.ofChange fnExactFixPlaceSpec)

/-- ITS FALSE NEIGHBOUR: 'it returns false'. Refute it at one input. -/
def fnExactFixPlaceWrong : ChangeSpec := { name := "fnExactFixPlace", fn := fun _ => fun
  | [d1, d2, d3, d4] => { results := [.lit (.bool false)], args := [d1, d2, d3, d4] }
  | _ => none }
def FnExactFixPlaceWrongFalsely : Prop := fnExactFixPlaceRow.holds Try.pinned (OpenSpec.ofChange fnExactFixPlaceWrong)

/-- 'laws.FnExactPairRels': WHATEVER THE INPUT: true; the input reads as it did. -/
def fnExactPairRelsSpec : ChangeSpec := { name := "fnExactPairRels", fn := fun _ => fun
  | [d1, d2, d3] => { results := [.lit (.bool true)], args := [d1, d2, d3] }
  | _ => none }
def fnExactPairRelsRow : OpenClaim := { program := "ytohpjamngpphnaa", sum := "3472f855dcbd85ba620a321ba69a4e41030fa4b52bea90f7946489ac1feefa92", func := "loop.example/g01085/laws.FnExactPairRels", spec := "fnExactPairRels", unfollowed := true, recurses := true, apart := false }
def FnExactPairRelsSaid : Prop := fnExactPairRelsRow.holds Try.pinned (OpenSpec.ofChange fnExactPairRelsSpec)

/-- ITS FALSE NEIGHBOUR: 'it returns false'. Refute it at one input. -/
def fnExactPairRelsWrong : ChangeSpec := { name := "fnExactPairRels", fn := fun _ => fun
  | [d1, d2, d3] => { results := [.lit (.bool false)], args := [d1, d2, d3] }
  | _ => none }
def FnExactPairRelsWrongFalsely : Prop := fnExactPairRelsRow.holds Try.pinned (OpenSpec.ofChange fnExactPairRelsWrong)

/-- 'laws.FnExactOppositeRel': WHATEVER THE INPUT: true; the input reads as it did. -/
def fnExactOppositeRelSpec : ChangeSpec := { name := "fnExactOppositeRel", fn := fun _ => fun
  | [d1, d2] => { results := [.lit (.bool true)], args := [d1, d2] }
  | _ => none }
def fnExactOppositeRelRow : OpenClaim := { program := "ytohpjamngpphnaa", sum := "3472f855dcbd85ba620a321ba69a4e41030fa4b52bea90f7946489ac1feefa92", func := "loop.example/g01085/laws.FnExactOppositeRel", spec := "fnExactOppositeRel", unfollowed := true, recurses := true, apart := false }
def FnExactOppositeRelSaid : Prop := fnExactOppositeRelRow.holds Try.pinned (OpenSpec.ofChange fnExactOppositeRelSpec)

/-- ITS FALSE NEIGHBOUR: 'it returns false'. Refute it at one input. -/
def fnExactOppositeRelWrong : ChangeSpec := { name := "fnExactOppositeRel", fn := fun _ => fun
  | [d1, d2] => { results := [.lit (.bool false)], args := [d1, d2] }
  | _ => none }
def FnExactOppositeRelWrongFalsely : Prop := fnExactOppositeRelRow.holds Try.pinned (OpenSpec.ofChange fnExactOppositeRelWrong)

/-- 'laws.FnExactMeetRels': WHATEVER THE INPUT: true; the input reads as it did. -/
def fnExactMeetRelsSpec : ChangeSpec := { name := "fnExactMeetRels", fn := fun _ => fun
  | [d1, d2, d3] => { results := [.lit (.bool true)], args := [d1, d2, d3] }
  | _ => none }
def fnExactMeetRelsRow : OpenClaim := { program := "ytohpjamngpphnaa", sum := "3472f855dcbd85ba620a321ba69a4e41030fa4b52bea90f7946489ac1feefa92", func := "loop.example/g01085/laws.FnExactMeetRels", spec := "fnExactMeetRels", unfollowed := true, recurses := true, apart := false }
def FnExactMeetRelsSaid : Prop := fnExactMeetRelsRow.holds Try.pinned (OpenSpec.ofChange fnExactMeetRelsSpec)

/-- ITS FALSE NEIGHBOUR: 'it returns false'. Refute it at one input. -/
def fnExactMeetRelsWrong : ChangeSpec := { name := "fnExactMeetRels", fn := fun _ => fun
  | [d1, d2, d3] => { results := [.lit (.bool false)], args := [d1, d2, d3] }
  | _ => none }
def FnExactMeetRelsWrongFalsely : Prop := fnExactMeetRelsRow.holds Try.pinned (OpenSpec.ofChange fnExactMeetRelsWrong)

/-- 'laws.FnExactComposeRels': WHATEVER THE INPUT: true; the input reads as it did. -/
def fnExactComposeRelsSpec : ChangeSpec := { name := "fnExactComposeRels", fn := fun _ => fun
  | [d1, d2, d3] => { results := [.lit (.bool true)], args := [d1, d2, d3] }
  | _ => none }
def fnExactComposeRelsRow : OpenClaim := { program := "ytohpjamngpphnaa", sum := "3472f855dcbd85ba620a321ba69a4e41030fa4b52bea90f7946489ac1feefa92", func := "loop.example/g01085/laws.FnExactComposeRels", spec := "fnExactComposeRels", unfollowed := true, recurses := true, apart := false }
def FnExactComposeRelsSaid : Prop := fnExactComposeRelsRow.holds Try.pinned (OpenSpec.ofChange fnExactComposeRelsSpec)

/-- ITS FALSE NEIGHBOUR: 'it returns false'. Refute it at one input. -/
def fnExactComposeRelsWrong : ChangeSpec := { name := "fnExactComposeRels", fn := fun _ => fun
  | [d1, d2, d3] => { results := [.lit (.bool false)], args := [d1, d2, d3] }
  | _ => none }
def FnExactComposeRelsWrongFalsely : Prop := fnExactComposeRelsRow.holds Try.pinned (OpenSpec.ofChange fnExactComposeRelsWrong)

/-- 'laws.FnExactJoinRels': WHATEVER THE INPUT: true; the input reads as it did. -/
def fnExactJoinRelsSpec : ChangeSpec := { name := "fnExactJoinRels", fn := fun _ => fun
  | [d1, d2, d3] => { results := [.lit (.bool true)], args := [d1, d2, d3] }
  | _ => none }
def fnExactJoinRelsRow : OpenClaim := { program := "ytohpjamngpphnaa", sum := "3472f855dcbd85ba620a321ba69a4e41030fa4b52bea90f7946489ac1feefa92", func := "loop.example/g01085/laws.FnExactJoinRels", spec := "fnExactJoinRels", unfollowed := true, recurses := true, apart := false }
def FnExactJoinRelsSaid : Prop := fnExactJoinRelsRow.holds Try.pinned (OpenSpec.ofChange fnExactJoinRelsSpec)

/-- ITS FALSE NEIGHBOUR: 'it returns false'. Refute it at one input. -/
def fnExactJoinRelsWrong : ChangeSpec := { name := "fnExactJoinRels", fn := fun _ => fun
  | [d1, d2, d3] => { results := [.lit (.bool false)], args := [d1, d2, d3] }
  | _ => none }
def FnExactJoinRelsWrongFalsely : Prop := fnExactJoinRelsRow.holds Try.pinned (OpenSpec.ofChange fnExactJoinRelsWrong)

/- THE SECOND FORM. 'bulk': how many values and letters a reading holds, each counted each time it is reached (what is shared counts as often as it is met; a slice's spare places count too). A statement '..UptoSaid' is the law's where the arguments, and the package variables that the reading takes, are together of bulk at most 1048576: NARROWER than '..Said'. Prove '..Said' where nothing that the law and all that it calls make is longer than what came in: it says more and counts as full. Else prove '..UptoSaid'. A law counts once. -/
mutual
def uptoBulk {H : Type} : DataW H → Nat
  | .lit (.string bytes) => bytes.length + 1
  | .lit _ => 1
  | .nil => 1
  | .ptr d => uptoBulk d + 1
  | .slice elems spare => uptoBulkAll elems + uptoBulkAll spare + 1
  | .agg parts => uptoBulkAll parts + 1
  | .iface _ d => uptoBulk d + 1
  | .map entries => uptoBulkEntries entries + 1
  | .held _ => 1
def uptoBulkAll {H : Type} : List (DataW H) → Nat
  | [] => 0
  | d :: r => uptoBulk d + uptoBulkAll r
def uptoBulkEntries {H : Type} : List (Lit × DataW H) → Nat
  | [] => 0
  | x :: r => uptoBulkEntry x + uptoBulkEntries r
def uptoBulkEntry {H : Type} : Lit × DataW H → Nat
  | (.string bytes, d) => bytes.length + uptoBulk d + 1
  | (_, d) => uptoBulk d + 1
 end
def uptoSmall : (H : Type) → List (DataW H) → Bool := fun _ ds => decide (uptoBulkAll ds ≤ 1048576)
def OpenSpec.upto (s : _root_.Go.ChangeSpec) : _root_.Go.OpenSpec := { _root_.Go.OpenSpec.ofChange s with cond := some uptoSmall }

/-- 'laws.FnExactEqualRel', WHERE WHAT IT READS IS OF BULK AT MOST 1048576: true; the input reads as it did. -/
def fnExactEqualRelUptoRow : OpenClaim := { program := "ytohpjamngpphnaa", sum := "3472f855dcbd85ba620a321ba69a4e41030fa4b52bea90f7946489ac1feefa92", func := "loop.example/g01085/laws.FnExactEqualRel", spec := "fnExactEqualRel", unfollowed := true, recurses := true, apart := false, narrowed := true }
def FnExactEqualRelUptoSaid : Prop := fnExactEqualRelUptoRow.holds Try.pinned (OpenSpec.upto fnExactEqualRelSpec)

/-- 'laws.FnExactSameRel', WHERE WHAT IT READS IS OF BULK AT MOST 1048576: true; the input reads as it did. -/
def fnExactSameRelUptoRow : OpenClaim := { program := "ytohpjamngpphnaa", sum := "3472f855dcbd85ba620a321ba69a4e41030fa4b52bea90f7946489ac1feefa92", func := "loop.example/g01085/laws.FnExactSameRel", spec := "fnExactSameRel", unfollowed := true, recurses := true, apart := false, narrowed := true }
def FnExactSameRelUptoSaid : Prop := fnExactSameRelUptoRow.holds Try.pinned (OpenSpec.upto fnExactSameRelSpec)

/-- 'laws.FnExactFullRel', WHERE WHAT IT READS IS OF BULK AT MOST 1048576: true; the input reads as it did. -/
def fnExactFullRelUptoRow : OpenClaim := { program := "ytohpjamngpphnaa", sum := "3472f855dcbd85ba620a321ba69a4e41030fa4b52bea90f7946489ac1feefa92", func := "loop.example/g01085/laws.FnExactFullRel", spec := "fnExactFullRel", unfollowed := true, recurses := true, apart := false, narrowed := true }
def FnExactFullRelUptoSaid : Prop := fnExactFullRelUptoRow.holds Try.pinned (OpenSpec.upto fnExactFullRelSpec)

/-- 'laws.FnExactValidRel', WHERE WHAT IT READS IS OF BULK AT MOST 1048576: true; the input reads as it did. -/
def fnExactValidRelUptoRow : OpenClaim := { program := "ytohpjamngpphnaa", sum := "3472f855dcbd85ba620a321ba69a4e41030fa4b52bea90f7946489ac1feefa92", func := "loop.example/g01085/laws.FnExactValidRel", spec := "fnExactValidRel", unfollowed := true, recurses := true, apart := false, narrowed := true }
def FnExactValidRelUptoSaid : Prop := fnExactValidRelUptoRow.holds Try.pinned (OpenSpec.upto fnExactValidRelSpec)

/-- 'laws.FnExactHasTuple', WHERE WHAT IT READS IS OF BULK AT MOST 1048576: true; the input reads as it did. -/
def fnExactHasTupleUptoRow : OpenClaim := { program := "ytohpjamngpphnaa", sum := "3472f855dcbd85ba620a321ba69a4e41030fa4b52bea90f7946489ac1feefa92", func := "loop.example/g01085/laws.FnExactHasTuple", spec := "fnExactHasTuple", unfollowed := true, recurses := true, apart := false, narrowed := true }
def FnExactHasTupleUptoSaid : Prop := fnExactHasTupleUptoRow.holds Try.pinned (OpenSpec.upto fnExactHasTupleSpec)

/-- 'laws.FnExactIsPartOf', WHERE WHAT IT READS IS OF BULK AT MOST 1048576: true; the input reads as it did. -/
def fnExactIsPartOfUptoRow : OpenClaim := { program := "ytohpjamngpphnaa", sum := "3472f855dcbd85ba620a321ba69a4e41030fa4b52bea90f7946489ac1feefa92", func := "loop.example/g01085/laws.FnExactIsPartOf", spec := "fnExactIsPartOf", unfollowed := true, recurses := true, apart := false, narrowed := true }
def FnExactIsPartOfUptoSaid : Prop := fnExactIsPartOfUptoRow.holds Try.pinned (OpenSpec.upto fnExactIsPartOfSpec)

/-- 'laws.FnExactFixPlace', WHERE WHAT IT READS IS OF BULK AT MOST 1048576: true; the input reads as it did. -/
def fnExactFixPlaceUptoRow : OpenClaim := { program := "ytohpjamngpphnaa", sum := "3472f855dcbd85ba620a321ba69a4e41030fa4b52bea90f7946489ac1feefa92", func := "loop.example/g01085/laws.FnExactFixPlace", spec := "fnExactFixPlace", unfollowed := true, recurses := true, apart := false, narrowed := true }
def FnExactFixPlaceUptoSaid : Prop := fnExactFixPlaceUptoRow.holds Try.pinned (OpenSpec.upto fnExactFixPlaceSpec)

/-- 'laws.FnExactPairRels', WHERE WHAT IT READS IS OF BULK AT MOST 1048576: true; the input reads as it did. -/
def fnExactPairRelsUptoRow : OpenClaim := { program := "ytohpjamngpphnaa", sum := "3472f855dcbd85ba620a321ba69a4e41030fa4b52bea90f7946489ac1feefa92", func := "loop.example/g01085/laws.FnExactPairRels", spec := "fnExactPairRels", unfollowed := true, recurses := true, apart := false, narrowed := true }
def FnExactPairRelsUptoSaid : Prop := fnExactPairRelsUptoRow.holds Try.pinned (OpenSpec.upto fnExactPairRelsSpec)

/-- 'laws.FnExactOppositeRel', WHERE WHAT IT READS IS OF BULK AT MOST 1048576: true; the input reads as it did. -/
def fnExactOppositeRelUptoRow : OpenClaim := { program := "ytohpjamngpphnaa", sum := "3472f855dcbd85ba620a321ba69a4e41030fa4b52bea90f7946489ac1feefa92", func := "loop.example/g01085/laws.FnExactOppositeRel", spec := "fnExactOppositeRel", unfollowed := true, recurses := true, apart := false, narrowed := true }
def FnExactOppositeRelUptoSaid : Prop := fnExactOppositeRelUptoRow.holds Try.pinned (OpenSpec.upto fnExactOppositeRelSpec)

/-- 'laws.FnExactMeetRels', WHERE WHAT IT READS IS OF BULK AT MOST 1048576: true; the input reads as it did. -/
def fnExactMeetRelsUptoRow : OpenClaim := { program := "ytohpjamngpphnaa", sum := "3472f855dcbd85ba620a321ba69a4e41030fa4b52bea90f7946489ac1feefa92", func := "loop.example/g01085/laws.FnExactMeetRels", spec := "fnExactMeetRels", unfollowed := true, recurses := true, apart := false, narrowed := true }
def FnExactMeetRelsUptoSaid : Prop := fnExactMeetRelsUptoRow.holds Try.pinned (OpenSpec.upto fnExactMeetRelsSpec)

/-- 'laws.FnExactComposeRels', WHERE WHAT IT READS IS OF BULK AT MOST 1048576: true; the input reads as it did. -/
def fnExactComposeRelsUptoRow : OpenClaim := { program := "ytohpjamngpphnaa", sum := "3472f855dcbd85ba620a321ba69a4e41030fa4b52bea90f7946489ac1feefa92", func := "loop.example/g01085/laws.FnExactComposeRels", spec := "fnExactComposeRels", unfollowed := true, recurses := true, apart := false, narrowed := true }
def FnExactComposeRelsUptoSaid : Prop := fnExactComposeRelsUptoRow.holds Try.pinned (OpenSpec.upto fnExactComposeRelsSpec)

/-- 'laws.FnExactJoinRels', WHERE WHAT IT READS IS OF BULK AT MOST 1048576: true; the input reads as it did. -/
def fnExactJoinRelsUptoRow : OpenClaim := { program := "ytohpjamngpphnaa", sum := "3472f855dcbd85ba620a321ba69a4e41030fa4b52bea90f7946489ac1feefa92", func := "loop.example/g01085/laws.FnExactJoinRels", spec := "fnExactJoinRels", unfollowed := true, recurses := true, apart := false, narrowed := true }
def FnExactJoinRelsUptoSaid : Prop := fnExactJoinRelsUptoRow.holds Try.pinned (OpenSpec.upto fnExactJoinRelsSpec)

end Rows
end Go.Proofs.Ytohpjamngpphnaa
