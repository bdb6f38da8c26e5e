/-
  DERIVED. GIVEN WITH THE SEED: THE CARDS: each row of YtijihbegfmkceaaDoorRows.lean that lists a variable, with what it lists TIED to the program's text (the seventh form; the later family's looks); each row that meets fmt, with fmt's text TOLD by the authors' own Lean function (tested against real Go, not proved from fmt's source: count such statements apart). THE CARD IS WHAT COUNTS. Prove the row's statement (the work); the ties are given (YtijihbegfmkceaaDoorTie.lean); close each card by the builder's one call (the guide's Derived/Test/ToyasCard.lean, 'card_holds'). Laid BY PROGRAM, IN A SANDBOX (cutbox-door.mjs). By AI agents, Wed Nov 11 2026. No macro, syntax, notation, axiom, sorry.
-/
import Derived.Test.YtijihbegfmkceaaDoorRows
import GoSem.ClaimSeven
namespace Go.Proofs.YtijihbegfmkceaaDoor
namespace Rows

/-- THE TIED CARD OF 'swarflaw41.BlockText'. -/
def blockTextCard : Claim7 := { stood := { row := blockTextRow, standIns := [], harness := (true, "f0fb65ec8e847660f557fdf4d8ed53d6f835d381835d257dc2d2ee91b94493e6"), looks := true }, kinds := [], alts := [], laidByText := true, laidKinds := [.data, .data, .data, .data, .sentinel, .sentinel, .pinned], laidTests := true, laidLooks := .later }
def BlockTextCardSaid : Prop := Claim7.holds Tryd.pinned (.plain (OpenSpec.ofChange blockTextSpec)) blockTextCard

/-- THE TIED CARD OF 'swarflaw41.BlockValue'. -/
def blockValueCard : Claim7 := { stood := { row := blockValueRow, standIns := [], harness := (true, "f0fb65ec8e847660f557fdf4d8ed53d6f835d381835d257dc2d2ee91b94493e6"), looks := true }, kinds := [], alts := [], laidByText := true, laidKinds := [.data, .data, .data, .data, .sentinel, .sentinel, .pinned], laidTests := true, laidLooks := .later }
def BlockValueCardSaid : Prop := Claim7.holds Tryd.pinned (.plain (OpenSpec.ofChange blockValueSpec)) blockValueCard

/-- THE TIED CARD OF 'swarflaw41.BlockFormat'. -/
def blockFormatCard : Claim7 := { stood := { row := blockFormatRow, standIns := [], harness := (true, "f0fb65ec8e847660f557fdf4d8ed53d6f835d381835d257dc2d2ee91b94493e6"), looks := true }, kinds := [], alts := [], laidByText := true, laidKinds := [.data, .data, .data, .data, .sentinel, .sentinel, .pinned], laidTests := true, laidLooks := .later }
def BlockFormatCardSaid : Prop := Claim7.holds Tryd.pinned (.plain (OpenSpec.ofChange blockFormatSpec)) blockFormatCard

/-- THE TIED CARD OF 'swarflaw41.BlockParse'. -/
def blockParseCard : Claim7 := { stood := { row := blockParseRow, standIns := [], harness := (true, "f0fb65ec8e847660f557fdf4d8ed53d6f835d381835d257dc2d2ee91b94493e6"), looks := true }, kinds := [], alts := [], laidByText := true, laidKinds := [.data, .data, .data, .data, .sentinel, .sentinel, .pinned], laidTests := true, laidLooks := .later }
def BlockParseCardSaid : Prop := Claim7.holds Tryd.pinned (.plain (OpenSpec.ofChange blockParseSpec)) blockParseCard

/-- THE TIED CARD OF 'swarflaw41.BlockSeek'. -/
def blockSeekCard : Claim7 := { stood := { row := blockSeekRow, standIns := [], harness := (true, "f0fb65ec8e847660f557fdf4d8ed53d6f835d381835d257dc2d2ee91b94493e6"), looks := true }, kinds := [], alts := [], laidByText := true, laidKinds := [.data, .data, .data, .data, .sentinel, .sentinel, .pinned], laidTests := true, laidLooks := .later }
def BlockSeekCardSaid : Prop := Claim7.holds Tryd.pinned (.plain (OpenSpec.ofChange blockSeekSpec)) blockSeekCard

/-- THE TIED CARD OF 'swarflaw41.BlockWords'. -/
def blockWordsCard : Claim7 := { stood := { row := blockWordsRow, standIns := [], harness := (true, "f0fb65ec8e847660f557fdf4d8ed53d6f835d381835d257dc2d2ee91b94493e6"), looks := true }, kinds := [], alts := [], laidByText := true, laidKinds := [.data, .data, .data, .data, .sentinel, .sentinel, .pinned], laidTests := true, laidLooks := .later }
def BlockWordsCardSaid : Prop := Claim7.holds Tryd.pinned (.plain (OpenSpec.ofChange blockWordsSpec)) blockWordsCard

/-- THE SECOND FORM's CARD OF 'swarflaw41.BlockText'. -/
def blockTextUptoCard : Claim7 := { stood := { row := blockTextUptoRow, standIns := [], harness := (true, "f0fb65ec8e847660f557fdf4d8ed53d6f835d381835d257dc2d2ee91b94493e6"), looks := true }, kinds := [], alts := [], laidByText := true, laidKinds := [.data, .data, .data, .data, .sentinel, .sentinel, .pinned], laidTests := true, laidLooks := .later }
def BlockTextUptoCardSaid : Prop := Claim7.holds Tryd.pinned (.plain (OpenSpec.upto blockTextSpec)) blockTextUptoCard

/-- THE SECOND FORM's CARD OF 'swarflaw41.BlockValue'. -/
def blockValueUptoCard : Claim7 := { stood := { row := blockValueUptoRow, standIns := [], harness := (true, "f0fb65ec8e847660f557fdf4d8ed53d6f835d381835d257dc2d2ee91b94493e6"), looks := true }, kinds := [], alts := [], laidByText := true, laidKinds := [.data, .data, .data, .data, .sentinel, .sentinel, .pinned], laidTests := true, laidLooks := .later }
def BlockValueUptoCardSaid : Prop := Claim7.holds Tryd.pinned (.plain (OpenSpec.upto blockValueSpec)) blockValueUptoCard

/-- THE SECOND FORM's CARD OF 'swarflaw41.BlockFormat'. -/
def blockFormatUptoCard : Claim7 := { stood := { row := blockFormatUptoRow, standIns := [], harness := (true, "f0fb65ec8e847660f557fdf4d8ed53d6f835d381835d257dc2d2ee91b94493e6"), looks := true }, kinds := [], alts := [], laidByText := true, laidKinds := [.data, .data, .data, .data, .sentinel, .sentinel, .pinned], laidTests := true, laidLooks := .later }
def BlockFormatUptoCardSaid : Prop := Claim7.holds Tryd.pinned (.plain (OpenSpec.upto blockFormatSpec)) blockFormatUptoCard

/-- THE SECOND FORM's CARD OF 'swarflaw41.BlockParse'. -/
def blockParseUptoCard : Claim7 := { stood := { row := blockParseUptoRow, standIns := [], harness := (true, "f0fb65ec8e847660f557fdf4d8ed53d6f835d381835d257dc2d2ee91b94493e6"), looks := true }, kinds := [], alts := [], laidByText := true, laidKinds := [.data, .data, .data, .data, .sentinel, .sentinel, .pinned], laidTests := true, laidLooks := .later }
def BlockParseUptoCardSaid : Prop := Claim7.holds Tryd.pinned (.plain (OpenSpec.upto blockParseSpec)) blockParseUptoCard

/-- THE SECOND FORM's CARD OF 'swarflaw41.BlockSeek'. -/
def blockSeekUptoCard : Claim7 := { stood := { row := blockSeekUptoRow, standIns := [], harness := (true, "f0fb65ec8e847660f557fdf4d8ed53d6f835d381835d257dc2d2ee91b94493e6"), looks := true }, kinds := [], alts := [], laidByText := true, laidKinds := [.data, .data, .data, .data, .sentinel, .sentinel, .pinned], laidTests := true, laidLooks := .later }
def BlockSeekUptoCardSaid : Prop := Claim7.holds Tryd.pinned (.plain (OpenSpec.upto blockSeekSpec)) blockSeekUptoCard

/-- THE SECOND FORM's CARD OF 'swarflaw41.BlockWords'. -/
def blockWordsUptoCard : Claim7 := { stood := { row := blockWordsUptoRow, standIns := [], harness := (true, "f0fb65ec8e847660f557fdf4d8ed53d6f835d381835d257dc2d2ee91b94493e6"), looks := true }, kinds := [], alts := [], laidByText := true, laidKinds := [.data, .data, .data, .data, .sentinel, .sentinel, .pinned], laidTests := true, laidLooks := .later }
def BlockWordsUptoCardSaid : Prop := Claim7.holds Tryd.pinned (.plain (OpenSpec.upto blockWordsSpec)) blockWordsUptoCard
end Rows
end Go.Proofs.YtijihbegfmkceaaDoor
