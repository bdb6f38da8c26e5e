/-
  DERIVED. GIVEN WITH THE SEED: THE CARDS: each row of YtgbafiejgciilaaGreatDoorRows.lean that lists a variable, with what it lists TIED to the program's text (the seventh form; the later family's looks); each row that meets fmt, with fmt's text TOLD by the authors' own Lean function (tested against real Go, not proved from fmt's source: count such statements apart). THE CARD IS WHAT COUNTS. Prove the row's statement (the work); the ties are given (YtgbafiejgciilaaGreatDoorTie.lean); close each card by the builder's one call (the guide's Derived/Test/ToyasCard.lean, 'card_holds'). Laid BY PROGRAM, IN A SANDBOX (cutbox-door.mjs). By AI agents, Wed Nov 11 2026. No macro, syntax, notation, axiom, sorry.
-/
import Derived.Test.YtgbafiejgciilaaGreatDoorRows
import GoSem.ClaimSeven
namespace Go.Proofs.YtgbafiejgciilaaGreatDoor
namespace Rows

/-- THE TIED CARD OF 'swarftop.TopProbed'. -/
def topProbedCard : Claim7 := { stood := { row := topProbedRow, standIns := [], harness := (true, "114c2a5c665e953a65e1c3e59e1be40cd4045fed8bc44b32c0ac99da77714bbd"), looks := false }, kinds := [], alts := [], laidByText := true, laidKinds := [.widerDeep], laidTests := true, laidLooks := .later }
def TopProbedCardSaid : Prop := Claim7.holds Tryz.pinned (.plain (OpenSpec.ofChange topProbedSpec)) topProbedCard

/-- THE SECOND FORM's CARD OF 'swarftop.TopProbed'. -/
def topProbedUptoCard : Claim7 := { stood := { row := topProbedUptoRow, standIns := [], harness := (true, "114c2a5c665e953a65e1c3e59e1be40cd4045fed8bc44b32c0ac99da77714bbd"), looks := false }, kinds := [], alts := [], laidByText := true, laidKinds := [.widerDeep], laidTests := true, laidLooks := .later }
def TopProbedUptoCardSaid : Prop := Claim7.holds Tryz.pinned (.plain (OpenSpec.upto topProbedSpec)) topProbedUptoCard
end Rows
end Go.Proofs.YtgbafiejgciilaaGreatDoor
