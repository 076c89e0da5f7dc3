/-
  DERIVED. GIVEN WITH THE SEED: THE CARDS: each row of YtajkepdfemdagaaDoorRows.lean that lists a variable, with what it lists TIED to the program's text (the seventh form; the later family's looks); each row that meets fmt, with fmt's text TOLD by the authors' own Lean function (tested against real Go, not proved from fmt's source: count such statements apart). THE CARD IS WHAT COUNTS. Prove the row's statement (the work); the ties are given (YtajkepdfemdagaaDoorTie.lean); close each card by the builder's one call (the guide's Derived/Test/ToyasCard.lean, 'card_holds'). Laid BY PROGRAM, IN A SANDBOX (cutbox-door.mjs). By AI agents, Wed Nov 11 2026. No macro, syntax, notation, axiom, sorry.
-/
import Derived.Test.YtajkepdfemdagaaDoorRows
import GoSem.ClaimSeven
namespace Go.Proofs.YtajkepdfemdagaaDoor
namespace Rows

/-- THE TIED CARD OF 'laws.FnExactOpText'. -/
def fnExactOpTextCard : Claim7 := { stood := { row := fnExactOpTextRow, standIns := [], harness := (true, "e07d81e53283f17198c3ed28c3a0018b9a800ab3f830153dd2292589b7e84782"), looks := true }, kinds := [], alts := [], laidByText := true, laidKinds := [.data, .data, .data], laidTests := true, laidLooks := .later }
def FnExactOpTextCardSaid : Prop := Claim7.holds Tryd.pinned (.plain (OpenSpec.ofChange fnExactOpTextSpec)) fnExactOpTextCard

/-- THE TIED CARD OF 'laws.FnExactRelText'. -/
def fnExactRelTextCard : Claim7 := { stood := { row := fnExactRelTextRow, standIns := [], harness := (true, "e07d81e53283f17198c3ed28c3a0018b9a800ab3f830153dd2292589b7e84782"), looks := true }, kinds := [], alts := [], laidByText := true, laidKinds := [.data, .data, .data], laidTests := true, laidLooks := .later }
def FnExactRelTextCardSaid : Prop := Claim7.holds Tryd.pinned (.plain (OpenSpec.ofChange fnExactRelTextSpec)) fnExactRelTextCard

/-- THE TIED CARD OF 'laws.FnExactTemplateText'. -/
def fnExactTemplateTextCard : Claim7 := { stood := { row := fnExactTemplateTextRow, standIns := [], harness := (true, "e07d81e53283f17198c3ed28c3a0018b9a800ab3f830153dd2292589b7e84782"), looks := true }, kinds := [], alts := [], laidByText := true, laidKinds := [.data, .data, .data], laidTests := true, laidLooks := .later }
def FnExactTemplateTextCardSaid : Prop := Claim7.holds Tryd.pinned (.plain (OpenSpec.ofChange fnExactTemplateTextSpec)) fnExactTemplateTextCard

/-- THE TIED CARD OF 'laws.FnExactReadOp'. -/
def fnExactReadOpCard : Claim7 := { stood := { row := fnExactReadOpRow, standIns := [], harness := (true, "e07d81e53283f17198c3ed28c3a0018b9a800ab3f830153dd2292589b7e84782"), looks := true }, kinds := [], alts := [], laidByText := true, laidKinds := [.data, .data, .data, .data, .sentinel, .sentinel, .pinned], laidTests := true, laidLooks := .later }
def FnExactReadOpCardSaid : Prop := Claim7.holds Tryd.pinned (.plain (OpenSpec.ofChange fnExactReadOpSpec)) fnExactReadOpCard

/-- THE TIED CARD OF 'laws.FnExactReadRel'. -/
def fnExactReadRelCard : Claim7 := { stood := { row := fnExactReadRelRow, standIns := [], harness := (true, "e07d81e53283f17198c3ed28c3a0018b9a800ab3f830153dd2292589b7e84782"), looks := true }, kinds := [], alts := [], laidByText := true, laidKinds := [.data, .data, .data, .data, .sentinel, .sentinel, .pinned], laidTests := true, laidLooks := .later }
def FnExactReadRelCardSaid : Prop := Claim7.holds Tryd.pinned (.plain (OpenSpec.ofChange fnExactReadRelSpec)) fnExactReadRelCard

/-- THE SECOND FORM's CARD OF 'laws.FnExactOpText'. -/
def fnExactOpTextUptoCard : Claim7 := { stood := { row := fnExactOpTextUptoRow, standIns := [], harness := (true, "e07d81e53283f17198c3ed28c3a0018b9a800ab3f830153dd2292589b7e84782"), looks := true }, kinds := [], alts := [], laidByText := true, laidKinds := [.data, .data, .data], laidTests := true, laidLooks := .later }
def FnExactOpTextUptoCardSaid : Prop := Claim7.holds Tryd.pinned (.plain (OpenSpec.upto fnExactOpTextSpec)) fnExactOpTextUptoCard

/-- THE SECOND FORM's CARD OF 'laws.FnExactRelText'. -/
def fnExactRelTextUptoCard : Claim7 := { stood := { row := fnExactRelTextUptoRow, standIns := [], harness := (true, "e07d81e53283f17198c3ed28c3a0018b9a800ab3f830153dd2292589b7e84782"), looks := true }, kinds := [], alts := [], laidByText := true, laidKinds := [.data, .data, .data], laidTests := true, laidLooks := .later }
def FnExactRelTextUptoCardSaid : Prop := Claim7.holds Tryd.pinned (.plain (OpenSpec.upto fnExactRelTextSpec)) fnExactRelTextUptoCard

/-- THE SECOND FORM's CARD OF 'laws.FnExactTemplateText'. -/
def fnExactTemplateTextUptoCard : Claim7 := { stood := { row := fnExactTemplateTextUptoRow, standIns := [], harness := (true, "e07d81e53283f17198c3ed28c3a0018b9a800ab3f830153dd2292589b7e84782"), looks := true }, kinds := [], alts := [], laidByText := true, laidKinds := [.data, .data, .data], laidTests := true, laidLooks := .later }
def FnExactTemplateTextUptoCardSaid : Prop := Claim7.holds Tryd.pinned (.plain (OpenSpec.upto fnExactTemplateTextSpec)) fnExactTemplateTextUptoCard

/-- THE SECOND FORM's CARD OF 'laws.FnExactReadOp'. -/
def fnExactReadOpUptoCard : Claim7 := { stood := { row := fnExactReadOpUptoRow, standIns := [], harness := (true, "e07d81e53283f17198c3ed28c3a0018b9a800ab3f830153dd2292589b7e84782"), looks := true }, kinds := [], alts := [], laidByText := true, laidKinds := [.data, .data, .data, .data, .sentinel, .sentinel, .pinned], laidTests := true, laidLooks := .later }
def FnExactReadOpUptoCardSaid : Prop := Claim7.holds Tryd.pinned (.plain (OpenSpec.upto fnExactReadOpSpec)) fnExactReadOpUptoCard

/-- THE SECOND FORM's CARD OF 'laws.FnExactReadRel'. -/
def fnExactReadRelUptoCard : Claim7 := { stood := { row := fnExactReadRelUptoRow, standIns := [], harness := (true, "e07d81e53283f17198c3ed28c3a0018b9a800ab3f830153dd2292589b7e84782"), looks := true }, kinds := [], alts := [], laidByText := true, laidKinds := [.data, .data, .data, .data, .sentinel, .sentinel, .pinned], laidTests := true, laidLooks := .later }
def FnExactReadRelUptoCardSaid : Prop := Claim7.holds Tryd.pinned (.plain (OpenSpec.upto fnExactReadRelSpec)) fnExactReadRelUptoCard
end Rows
end Go.Proofs.YtajkepdfemdagaaDoor
