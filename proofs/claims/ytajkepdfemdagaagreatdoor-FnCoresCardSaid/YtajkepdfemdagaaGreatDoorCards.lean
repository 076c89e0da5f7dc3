/-
  DERIVED. GIVEN WITH THE SEED: THE CARDS: each row of YtajkepdfemdagaaGreatDoorRows.lean that lists a variable, with what it lists TIED to the program's text (the seventh form; the later family's looks); each row that meets fmt, with fmt's text TOLD by the authors' own Lean function (tested against real Go, not proved from fmt's source: count such statements apart). THE CARD IS WHAT COUNTS. Prove the row's statement (the work); the ties are given (YtajkepdfemdagaaGreatDoorTie.lean); close each card by the builder's one call (the guide's Derived/Test/ToyasCard.lean, 'card_holds'). Laid BY PROGRAM, IN A SANDBOX (cutbox-door.mjs). By AI agents, Wed Nov 11 2026. No macro, syntax, notation, axiom, sorry.
-/
import Derived.Test.YtajkepdfemdagaaGreatDoorRows
import GoSem.ClaimSeven
namespace Go.Proofs.YtajkepdfemdagaaGreatDoor
namespace Rows

/-- THE TIED CARD OF 'laws.FnExactReadTemplate'. -/
def fnExactReadTemplateCard : Claim7 := { stood := { row := fnExactReadTemplateRow, standIns := [], harness := (true, "1437e14f72a8ad4a5dd500a23dad166702016eb71f45f134d6a3e382c3cf02b9"), looks := true }, kinds := [], alts := [], laidByText := true, laidKinds := [.data, .data, .data, .data, .sentinel, .sentinel, .pinned], laidTests := true, laidLooks := .later }
def FnExactReadTemplateCardSaid : Prop := Claim7.holds Tryz.pinned (.plain (OpenSpec.ofChange fnExactReadTemplateSpec)) fnExactReadTemplateCard

/-- THE TIED CARD OF 'laws.FnRelations'. -/
def fnRelationsCard : Claim7 := { stood := { row := fnRelationsRow, standIns := [], harness := (true, "1437e14f72a8ad4a5dd500a23dad166702016eb71f45f134d6a3e382c3cf02b9"), looks := true }, kinds := [], alts := [], laidByText := true, laidKinds := [.data, .data, .data, .data, .sentinel, .sentinel, .pinned], laidTests := true, laidLooks := .later }
def FnRelationsCardSaid : Prop := Claim7.holds Tryz.pinned (.plain (OpenSpec.ofChange fnRelationsSpec)) fnRelationsCard

/-- THE TIED CARD OF 'laws.FnCores'. -/
def fnCoresCard : Claim7 := { stood := { row := fnCoresRow, standIns := [], harness := (true, "1437e14f72a8ad4a5dd500a23dad166702016eb71f45f134d6a3e382c3cf02b9"), looks := true }, kinds := [], alts := [], laidByText := true, laidKinds := [.data, .data, .data, .data, .sentinel, .sentinel, .pinned], laidTests := true, laidLooks := .later }
def FnCoresCardSaid : Prop := Claim7.holds Tryz.pinned (.plain (OpenSpec.ofChange fnCoresSpec)) fnCoresCard

/-- THE SECOND FORM's CARD OF 'laws.FnExactReadTemplate'. -/
def fnExactReadTemplateUptoCard : Claim7 := { stood := { row := fnExactReadTemplateUptoRow, standIns := [], harness := (true, "1437e14f72a8ad4a5dd500a23dad166702016eb71f45f134d6a3e382c3cf02b9"), looks := true }, kinds := [], alts := [], laidByText := true, laidKinds := [.data, .data, .data, .data, .sentinel, .sentinel, .pinned], laidTests := true, laidLooks := .later }
def FnExactReadTemplateUptoCardSaid : Prop := Claim7.holds Tryz.pinned (.plain (OpenSpec.upto fnExactReadTemplateSpec)) fnExactReadTemplateUptoCard

/-- THE SECOND FORM's CARD OF 'laws.FnRelations'. -/
def fnRelationsUptoCard : Claim7 := { stood := { row := fnRelationsUptoRow, standIns := [], harness := (true, "1437e14f72a8ad4a5dd500a23dad166702016eb71f45f134d6a3e382c3cf02b9"), looks := true }, kinds := [], alts := [], laidByText := true, laidKinds := [.data, .data, .data, .data, .sentinel, .sentinel, .pinned], laidTests := true, laidLooks := .later }
def FnRelationsUptoCardSaid : Prop := Claim7.holds Tryz.pinned (.plain (OpenSpec.upto fnRelationsSpec)) fnRelationsUptoCard

/-- THE SECOND FORM's CARD OF 'laws.FnCores'. -/
def fnCoresUptoCard : Claim7 := { stood := { row := fnCoresUptoRow, standIns := [], harness := (true, "1437e14f72a8ad4a5dd500a23dad166702016eb71f45f134d6a3e382c3cf02b9"), looks := true }, kinds := [], alts := [], laidByText := true, laidKinds := [.data, .data, .data, .data, .sentinel, .sentinel, .pinned], laidTests := true, laidLooks := .later }
def FnCoresUptoCardSaid : Prop := Claim7.holds Tryz.pinned (.plain (OpenSpec.upto fnCoresSpec)) fnCoresUptoCard
end Rows
end Go.Proofs.YtajkepdfemdagaaGreatDoor
