/-
  DERIVED. GIVEN WITH THE SEED: THE CARDS: each row of YtijihbegfmkceaaGreatDoorRows.lean that lists a variable, with what it lists TIED to the program's text (the seventh form; the later family's looks); each row that meets fmt, with fmt's text TOLD by the authors' own Lean function (tested against real Go, not proved from fmt's source: count such statements apart). THE CARD IS WHAT COUNTS. Prove the row's statement (the work); the ties are given (YtijihbegfmkceaaGreatDoorTie.lean); close each card by the builder's one call (the guide's Derived/Test/ToyasCard.lean, 'card_holds'). Laid BY PROGRAM, IN A SANDBOX (cutbox-door.mjs). By AI agents, Wed Nov 11 2026. No macro, syntax, notation, axiom, sorry.
-/
import Derived.Test.YtijihbegfmkceaaGreatDoorRows
import GoSem.ClaimSeven
namespace Go.Proofs.YtijihbegfmkceaaGreatDoor
namespace Rows

/-- THE TIED CARD OF 'swarflaw41.BlockProgram'. -/
def blockProgramCard : Claim7 := { stood := { row := blockProgramRow, standIns := [], harness := (true, "d0aee6bac4ae729abae49dedb56756c9a9588a9e05e1f1fc7b64f1635e3b6a2b"), looks := true }, kinds := [], alts := [], laidByText := true, laidKinds := [.data, .data, .data, .data, .sentinel, .sentinel, .pinned], laidTests := true, laidLooks := .later }
def BlockProgramCardSaid : Prop := Claim7.holds Tryz.pinned (.plain (OpenSpec.ofChange blockProgramSpec)) blockProgramCard

/-- THE TIED CARD OF 'swarflaw41.BlockPrint'. -/
def blockPrintCard : Claim7 := { stood := { row := blockPrintRow, standIns := [], harness := (true, "d0aee6bac4ae729abae49dedb56756c9a9588a9e05e1f1fc7b64f1635e3b6a2b"), looks := true }, kinds := [], alts := [], laidByText := true, laidKinds := [.data, .data, .data, .data, .sentinel, .sentinel, .pinned], laidTests := true, laidLooks := .later }
def BlockPrintCardSaid : Prop := Claim7.holds Tryz.pinned (.plain (OpenSpec.ofChange blockPrintSpec)) blockPrintCard

/-- THE SECOND FORM's CARD OF 'swarflaw41.BlockProgram'. -/
def blockProgramUptoCard : Claim7 := { stood := { row := blockProgramUptoRow, standIns := [], harness := (true, "d0aee6bac4ae729abae49dedb56756c9a9588a9e05e1f1fc7b64f1635e3b6a2b"), looks := true }, kinds := [], alts := [], laidByText := true, laidKinds := [.data, .data, .data, .data, .sentinel, .sentinel, .pinned], laidTests := true, laidLooks := .later }
def BlockProgramUptoCardSaid : Prop := Claim7.holds Tryz.pinned (.plain (OpenSpec.upto blockProgramSpec)) blockProgramUptoCard

/-- THE SECOND FORM's CARD OF 'swarflaw41.BlockPrint'. -/
def blockPrintUptoCard : Claim7 := { stood := { row := blockPrintUptoRow, standIns := [], harness := (true, "d0aee6bac4ae729abae49dedb56756c9a9588a9e05e1f1fc7b64f1635e3b6a2b"), looks := true }, kinds := [], alts := [], laidByText := true, laidKinds := [.data, .data, .data, .data, .sentinel, .sentinel, .pinned], laidTests := true, laidLooks := .later }
def BlockPrintUptoCardSaid : Prop := Claim7.holds Tryz.pinned (.plain (OpenSpec.upto blockPrintSpec)) blockPrintUptoCard
end Rows
end Go.Proofs.YtijihbegfmkceaaGreatDoor
