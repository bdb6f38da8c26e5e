/-
  DERIVED. GIVEN WITH THE SEED: THE CARDS: each row of YtgojngpeaknbnabGreatDoorRows.lean that lists a variable, with what it lists TIED to the program's text (the seventh form; the later family's looks); each row that meets fmt, with fmt's text TOLD by the authors' own Lean function (tested against real Go, not proved from fmt's source: count such statements apart). THE CARD IS WHAT COUNTS. Prove the row's statement (the work); the ties are given (YtgojngpeaknbnabGreatDoorTie.lean); close each card by the builder's one call (the guide's Derived/Test/ToyasCard.lean, 'card_holds'). Laid BY PROGRAM, IN A SANDBOX (cutbox-door.mjs). By AI agents, Wed Nov 11 2026. No macro, syntax, notation, axiom, sorry.
-/
import Derived.Test.YtgojngpeaknbnabGreatDoorRows
import GoSem.ClaimSeven
namespace Go.Proofs.YtgojngpeaknbnabGreatDoor
namespace Rows

/-- THE TIED CARD OF 'swarftop.TopProgram'. -/
def topProgramCard : Claim7 := { stood := { row := topProgramRow, standIns := [], harness := (true, "236f17b39e29e326d0b75dc786890999b9bddf5d8544705104f2276a3eba7b16"), looks := true }, kinds := [], alts := [], laidByText := true, laidKinds := [.data, .data, .data, .data, .sentinel, .sentinel, .data, .widerDeep, .pinned], laidTests := true, laidLooks := .later }
def TopProgramCardSaid : Prop := Claim7.holds Tryz.pinned (.plain (OpenSpec.ofChange topProgramSpec)) topProgramCard

/-- THE SECOND FORM's CARD OF 'swarftop.TopProgram'. -/
def topProgramUptoCard : Claim7 := { stood := { row := topProgramUptoRow, standIns := [], harness := (true, "236f17b39e29e326d0b75dc786890999b9bddf5d8544705104f2276a3eba7b16"), looks := true }, kinds := [], alts := [], laidByText := true, laidKinds := [.data, .data, .data, .data, .sentinel, .sentinel, .data, .widerDeep, .pinned], laidTests := true, laidLooks := .later }
def TopProgramUptoCardSaid : Prop := Claim7.holds Tryz.pinned (.plain (OpenSpec.upto topProgramSpec)) topProgramUptoCard
end Rows
end Go.Proofs.YtgojngpeaknbnabGreatDoor
