/-
  DERIVED. GIVEN WITH THE SEED: THE CARDS: each row of YtjemmjpdmbenkaaGreatDoorRows.lean that lists a variable, with what it lists TIED to the program's text (the seventh form; the later family's looks); each row that meets fmt, with fmt's text TOLD by the authors' own Lean function (tested against real Go, not proved from fmt's source: count such statements apart). THE CARD IS WHAT COUNTS. Prove the row's statement (the work); the ties are given (YtjemmjpdmbenkaaGreatDoorTie.lean); close each card by the builder's one call (the guide's Derived/Test/ToyasCard.lean, 'card_holds'). Laid BY PROGRAM, IN A SANDBOX (cutbox-door.mjs). By AI agents, Wed Nov 11 2026. No macro, syntax, notation, axiom, sorry.
-/
import Derived.Test.YtjemmjpdmbenkaaGreatDoorRows
import GoSem.ClaimSeven
namespace Go.Proofs.YtjemmjpdmbenkaaGreatDoor
namespace Rows

/-- THE TIED CARD OF 'swarflaw47.InterpreterRun'. -/
def interpreterRunCard : Claim7 := { stood := { row := interpreterRunRow, standIns := [], harness := (true, "dde77ec8e0fa5b419e6412dcfc438525650010818732df3afac3379a4446b3e7"), looks := true }, kinds := [], alts := [], laidByText := true, laidKinds := [.data, .data, .data, .data, .sentinel, .sentinel, .widerDeep, .pinned], laidTests := true, laidLooks := .later }
def InterpreterRunCardSaid : Prop := Claim7.holds Tryz.pinned (.plain (OpenSpec.ofChange interpreterRunSpec)) interpreterRunCard

/-- THE SECOND FORM's CARD OF 'swarflaw47.InterpreterRun'. -/
def interpreterRunUptoCard : Claim7 := { stood := { row := interpreterRunUptoRow, standIns := [], harness := (true, "dde77ec8e0fa5b419e6412dcfc438525650010818732df3afac3379a4446b3e7"), looks := true }, kinds := [], alts := [], laidByText := true, laidKinds := [.data, .data, .data, .data, .sentinel, .sentinel, .widerDeep, .pinned], laidTests := true, laidLooks := .later }
def InterpreterRunUptoCardSaid : Prop := Claim7.holds Tryz.pinned (.plain (OpenSpec.upto interpreterRunSpec)) interpreterRunUptoCard
end Rows
end Go.Proofs.YtjemmjpdmbenkaaGreatDoor
