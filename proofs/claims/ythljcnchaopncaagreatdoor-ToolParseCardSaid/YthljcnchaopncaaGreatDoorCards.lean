/-
  DERIVED. GIVEN WITH THE SEED: THE CARDS: each row of YthljcnchaopncaaGreatDoorRows.lean that lists a variable, with what it lists TIED to the program's text (the seventh form; the later family's looks); each row that meets fmt, with fmt's text TOLD by the authors' own Lean function (tested against real Go, not proved from fmt's source: count such statements apart). THE CARD IS WHAT COUNTS. Prove the row's statement (the work); the ties are given (YthljcnchaopncaaGreatDoorTie.lean); close each card by the builder's one call (the guide's Derived/Test/ToyasCard.lean, 'card_holds'). Laid BY PROGRAM, IN A SANDBOX (cutbox-door.mjs). By AI agents, Wed Nov 11 2026. No macro, syntax, notation, axiom, sorry.
-/
import Derived.Test.YthljcnchaopncaaGreatDoorRows
import GoSem.ClaimSeven
namespace Go.Proofs.YthljcnchaopncaaGreatDoor
namespace Rows

/-- THE TIED CARD OF 'swarflaw27.ToolValid'. -/
def toolValidCard : Claim7 := { stood := { row := toolValidRow, standIns := [], harness := (true, "5919db19b4f40cd22313c8cc5636f27ba013ea4e1939815e30f5de270ca1f4d8"), looks := true }, kinds := [], alts := [], laidByText := true, laidKinds := [.data, .data, .data, .data, .sentinel, .sentinel, .mapped, .pinned], laidTests := true, laidLooks := .later }
def ToolValidCardSaid : Prop := Claim7.holds Tryz.pinned (.plain (OpenSpec.ofChange toolValidSpec)) toolValidCard

/-- THE TIED CARD OF 'swarflaw27.ToolParse'. -/
def toolParseCard : Claim7 := { stood := { row := toolParseRow, standIns := [], harness := (true, "5919db19b4f40cd22313c8cc5636f27ba013ea4e1939815e30f5de270ca1f4d8"), looks := true }, kinds := [], alts := [], laidByText := true, laidKinds := [.data, .data, .data, .data, .sentinel, .sentinel, .mapped, .pinned], laidTests := true, laidLooks := .later }
def ToolParseCardSaid : Prop := Claim7.holds Tryz.pinned (.plain (OpenSpec.ofChange toolParseSpec)) toolParseCard

/-- THE TIED CARD OF 'swarflaw27.ToolMagazine'. -/
def toolMagazineCard : Claim7 := { stood := { row := toolMagazineRow, standIns := [], harness := (true, "5919db19b4f40cd22313c8cc5636f27ba013ea4e1939815e30f5de270ca1f4d8"), looks := true }, kinds := [], alts := [], laidByText := true, laidKinds := [.data, .data, .data, .data, .sentinel, .sentinel, .mapped, .pinned], laidTests := true, laidLooks := .later }
def ToolMagazineCardSaid : Prop := Claim7.holds Tryz.pinned (.plain (OpenSpec.ofChange toolMagazineSpec)) toolMagazineCard

/-- THE TIED CARD OF 'swarflaw27.ToolFind'. -/
def toolFindCard : Claim7 := { stood := { row := toolFindRow, standIns := [], harness := (true, "5919db19b4f40cd22313c8cc5636f27ba013ea4e1939815e30f5de270ca1f4d8"), looks := true }, kinds := [], alts := [], laidByText := true, laidKinds := [.data, .data, .data, .data, .sentinel, .sentinel, .mapped, .pinned], laidTests := true, laidLooks := .later }
def ToolFindCardSaid : Prop := Claim7.holds Tryz.pinned (.plain (OpenSpec.ofChange toolFindSpec)) toolFindCard

/-- THE TIED CARD OF 'swarflaw27.ToolText'. -/
def toolTextCard : Claim7 := { stood := { row := toolTextRow, standIns := [], harness := (true, "5919db19b4f40cd22313c8cc5636f27ba013ea4e1939815e30f5de270ca1f4d8"), looks := true }, kinds := [], alts := [], laidByText := true, laidKinds := [.data, .data, .data, .data, .sentinel, .sentinel, .mapped, .pinned], laidTests := true, laidLooks := .later }
def ToolTextCardSaid : Prop := Claim7.holds Tryz.pinned (.plain (OpenSpec.ofChange toolTextSpec)) toolTextCard

/-- THE TIED CARD OF 'swarflaw27.ToolLargest'. -/
def toolLargestCard : Claim7 := { stood := { row := toolLargestRow, standIns := [], harness := (true, "5919db19b4f40cd22313c8cc5636f27ba013ea4e1939815e30f5de270ca1f4d8"), looks := true }, kinds := [], alts := [], laidByText := true, laidKinds := [.data, .data, .data, .data, .sentinel, .sentinel, .mapped, .pinned], laidTests := true, laidLooks := .later }
def ToolLargestCardSaid : Prop := Claim7.holds Tryz.pinned (.plain (OpenSpec.ofChange toolLargestSpec)) toolLargestCard

/-- THE TIED CARD OF 'swarflaw27.ToolEqual'. -/
def toolEqualCard : Claim7 := { stood := { row := toolEqualRow, standIns := [], harness := (true, "5919db19b4f40cd22313c8cc5636f27ba013ea4e1939815e30f5de270ca1f4d8"), looks := true }, kinds := [], alts := [], laidByText := true, laidKinds := [.data, .data, .data, .data, .sentinel, .sentinel, .mapped, .pinned], laidTests := true, laidLooks := .later }
def ToolEqualCardSaid : Prop := Claim7.holds Tryz.pinned (.plain (OpenSpec.ofChange toolEqualSpec)) toolEqualCard

/-- THE SECOND FORM's CARD OF 'swarflaw27.ToolValid'. -/
def toolValidUptoCard : Claim7 := { stood := { row := toolValidUptoRow, standIns := [], harness := (true, "5919db19b4f40cd22313c8cc5636f27ba013ea4e1939815e30f5de270ca1f4d8"), looks := true }, kinds := [], alts := [], laidByText := true, laidKinds := [.data, .data, .data, .data, .sentinel, .sentinel, .mapped, .pinned], laidTests := true, laidLooks := .later }
def ToolValidUptoCardSaid : Prop := Claim7.holds Tryz.pinned (.plain (OpenSpec.upto toolValidSpec)) toolValidUptoCard

/-- THE SECOND FORM's CARD OF 'swarflaw27.ToolParse'. -/
def toolParseUptoCard : Claim7 := { stood := { row := toolParseUptoRow, standIns := [], harness := (true, "5919db19b4f40cd22313c8cc5636f27ba013ea4e1939815e30f5de270ca1f4d8"), looks := true }, kinds := [], alts := [], laidByText := true, laidKinds := [.data, .data, .data, .data, .sentinel, .sentinel, .mapped, .pinned], laidTests := true, laidLooks := .later }
def ToolParseUptoCardSaid : Prop := Claim7.holds Tryz.pinned (.plain (OpenSpec.upto toolParseSpec)) toolParseUptoCard

/-- THE SECOND FORM's CARD OF 'swarflaw27.ToolMagazine'. -/
def toolMagazineUptoCard : Claim7 := { stood := { row := toolMagazineUptoRow, standIns := [], harness := (true, "5919db19b4f40cd22313c8cc5636f27ba013ea4e1939815e30f5de270ca1f4d8"), looks := true }, kinds := [], alts := [], laidByText := true, laidKinds := [.data, .data, .data, .data, .sentinel, .sentinel, .mapped, .pinned], laidTests := true, laidLooks := .later }
def ToolMagazineUptoCardSaid : Prop := Claim7.holds Tryz.pinned (.plain (OpenSpec.upto toolMagazineSpec)) toolMagazineUptoCard

/-- THE SECOND FORM's CARD OF 'swarflaw27.ToolFind'. -/
def toolFindUptoCard : Claim7 := { stood := { row := toolFindUptoRow, standIns := [], harness := (true, "5919db19b4f40cd22313c8cc5636f27ba013ea4e1939815e30f5de270ca1f4d8"), looks := true }, kinds := [], alts := [], laidByText := true, laidKinds := [.data, .data, .data, .data, .sentinel, .sentinel, .mapped, .pinned], laidTests := true, laidLooks := .later }
def ToolFindUptoCardSaid : Prop := Claim7.holds Tryz.pinned (.plain (OpenSpec.upto toolFindSpec)) toolFindUptoCard

/-- THE SECOND FORM's CARD OF 'swarflaw27.ToolText'. -/
def toolTextUptoCard : Claim7 := { stood := { row := toolTextUptoRow, standIns := [], harness := (true, "5919db19b4f40cd22313c8cc5636f27ba013ea4e1939815e30f5de270ca1f4d8"), looks := true }, kinds := [], alts := [], laidByText := true, laidKinds := [.data, .data, .data, .data, .sentinel, .sentinel, .mapped, .pinned], laidTests := true, laidLooks := .later }
def ToolTextUptoCardSaid : Prop := Claim7.holds Tryz.pinned (.plain (OpenSpec.upto toolTextSpec)) toolTextUptoCard

/-- THE SECOND FORM's CARD OF 'swarflaw27.ToolLargest'. -/
def toolLargestUptoCard : Claim7 := { stood := { row := toolLargestUptoRow, standIns := [], harness := (true, "5919db19b4f40cd22313c8cc5636f27ba013ea4e1939815e30f5de270ca1f4d8"), looks := true }, kinds := [], alts := [], laidByText := true, laidKinds := [.data, .data, .data, .data, .sentinel, .sentinel, .mapped, .pinned], laidTests := true, laidLooks := .later }
def ToolLargestUptoCardSaid : Prop := Claim7.holds Tryz.pinned (.plain (OpenSpec.upto toolLargestSpec)) toolLargestUptoCard

/-- THE SECOND FORM's CARD OF 'swarflaw27.ToolEqual'. -/
def toolEqualUptoCard : Claim7 := { stood := { row := toolEqualUptoRow, standIns := [], harness := (true, "5919db19b4f40cd22313c8cc5636f27ba013ea4e1939815e30f5de270ca1f4d8"), looks := true }, kinds := [], alts := [], laidByText := true, laidKinds := [.data, .data, .data, .data, .sentinel, .sentinel, .mapped, .pinned], laidTests := true, laidLooks := .later }
def ToolEqualUptoCardSaid : Prop := Claim7.holds Tryz.pinned (.plain (OpenSpec.upto toolEqualSpec)) toolEqualUptoCard
end Rows
end Go.Proofs.YthljcnchaopncaaGreatDoor
