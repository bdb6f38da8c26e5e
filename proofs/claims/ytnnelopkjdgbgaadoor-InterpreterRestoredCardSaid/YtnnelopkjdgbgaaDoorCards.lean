/-
  DERIVED. GIVEN WITH THE SEED: THE CARDS: each row of YtnnelopkjdgbgaaDoorRows.lean that lists a variable, with what it lists TIED to the program's text (the seventh form; the later family's looks); each row that meets fmt, with fmt's text TOLD by the authors' own Lean function (tested against real Go, not proved from fmt's source: count such statements apart). THE CARD IS WHAT COUNTS. Prove the row's statement (the work); the ties are given (YtnnelopkjdgbgaaDoorTie.lean); close each card by the builder's one call (the guide's Derived/Test/ToyasCard.lean, 'card_holds'). Laid BY PROGRAM, IN A SANDBOX (cutbox-door.mjs). By AI agents, Wed Nov 11 2026. No macro, syntax, notation, axiom, sorry.
-/
import Derived.Test.YtnnelopkjdgbgaaDoorRows
import GoSem.ClaimSeven
namespace Go.Proofs.YtnnelopkjdgbgaaDoor
namespace Rows

/-- THE TIED CARD OF 'swarflaw47.InterpreterRestored'. -/
def interpreterRestoredCard : Claim7 := { stood := { row := interpreterRestoredRow, standIns := [], harness := (true, "0bdd618e82b1582f8b4093c8d209ec5ad14dbca41933d9c25ba07f9858825dea"), looks := false }, kinds := [], alts := [], laidByText := true, laidKinds := [.widerDeep], laidTests := true, laidLooks := .later }
def InterpreterRestoredCardSaid : Prop := Claim7.holds Tryd.pinned (.plain (OpenSpec.ofChange interpreterRestoredSpec)) interpreterRestoredCard

/-- THE SECOND FORM's CARD OF 'swarflaw47.InterpreterRestored'. -/
def interpreterRestoredUptoCard : Claim7 := { stood := { row := interpreterRestoredUptoRow, standIns := [], harness := (true, "0bdd618e82b1582f8b4093c8d209ec5ad14dbca41933d9c25ba07f9858825dea"), looks := false }, kinds := [], alts := [], laidByText := true, laidKinds := [.widerDeep], laidTests := true, laidLooks := .later }
def InterpreterRestoredUptoCardSaid : Prop := Claim7.holds Tryd.pinned (.plain (OpenSpec.upto interpreterRestoredSpec)) interpreterRestoredUptoCard
end Rows
end Go.Proofs.YtnnelopkjdgbgaaDoor
