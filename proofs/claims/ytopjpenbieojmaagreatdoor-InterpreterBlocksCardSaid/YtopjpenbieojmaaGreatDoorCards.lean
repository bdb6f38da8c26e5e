/-
  DERIVED. GIVEN WITH THE SEED: THE CARDS: each row of YtopjpenbieojmaaGreatDoorRows.lean that lists a variable, with what it lists TIED to the program's text (the seventh form; the later family's looks); each row that meets fmt, with fmt's text TOLD by the authors' own Lean function (tested against real Go, not proved from fmt's source: count such statements apart). THE CARD IS WHAT COUNTS. Prove the row's statement (the work); the ties are given (YtopjpenbieojmaaGreatDoorTie.lean); close each card by the builder's one call (the guide's Derived/Test/ToyasCard.lean, 'card_holds'). Laid BY PROGRAM, IN A SANDBOX (cutbox-door.mjs). By AI agents, Wed Nov 11 2026. No macro, syntax, notation, axiom, sorry.
-/
import Derived.Test.YtopjpenbieojmaaGreatDoorRows
import GoSem.ClaimSeven
namespace Go.Proofs.YtopjpenbieojmaaGreatDoor
namespace Rows

/-- THE TIED CARD OF 'swarflaw47.InterpreterStep'. -/
def interpreterStepCard : Claim7 := { stood := { row := interpreterStepRow, standIns := [], harness := (true, "80832ddd2e432c4e38ab44c7735a227a7ec86e75ef59a3b43e98b30c1d3a5276"), looks := false }, kinds := [], alts := [], laidByText := true, laidKinds := [.widerDeep], laidTests := true, laidLooks := .later }
def InterpreterStepCardSaid : Prop := Claim7.holds Tryz.pinned (.plain (OpenSpec.ofChange interpreterStepSpec)) interpreterStepCard

/-- THE TIED CARD OF 'swarflaw47.InterpreterBlocks'. -/
def interpreterBlocksCard : Claim7 := { stood := { row := interpreterBlocksRow, standIns := [], harness := (true, "80832ddd2e432c4e38ab44c7735a227a7ec86e75ef59a3b43e98b30c1d3a5276"), looks := false }, kinds := [], alts := [], laidByText := true, laidKinds := [.widerDeep], laidTests := true, laidLooks := .later }
def InterpreterBlocksCardSaid : Prop := Claim7.holds Tryz.pinned (.plain (OpenSpec.ofChange interpreterBlocksSpec)) interpreterBlocksCard

/-- THE SECOND FORM's CARD OF 'swarflaw47.InterpreterStep'. -/
def interpreterStepUptoCard : Claim7 := { stood := { row := interpreterStepUptoRow, standIns := [], harness := (true, "80832ddd2e432c4e38ab44c7735a227a7ec86e75ef59a3b43e98b30c1d3a5276"), looks := false }, kinds := [], alts := [], laidByText := true, laidKinds := [.widerDeep], laidTests := true, laidLooks := .later }
def InterpreterStepUptoCardSaid : Prop := Claim7.holds Tryz.pinned (.plain (OpenSpec.upto interpreterStepSpec)) interpreterStepUptoCard

/-- THE SECOND FORM's CARD OF 'swarflaw47.InterpreterBlocks'. -/
def interpreterBlocksUptoCard : Claim7 := { stood := { row := interpreterBlocksUptoRow, standIns := [], harness := (true, "80832ddd2e432c4e38ab44c7735a227a7ec86e75ef59a3b43e98b30c1d3a5276"), looks := false }, kinds := [], alts := [], laidByText := true, laidKinds := [.widerDeep], laidTests := true, laidLooks := .later }
def InterpreterBlocksUptoCardSaid : Prop := Claim7.holds Tryz.pinned (.plain (OpenSpec.upto interpreterBlocksSpec)) interpreterBlocksUptoCard
end Rows
end Go.Proofs.YtopjpenbieojmaaGreatDoor
