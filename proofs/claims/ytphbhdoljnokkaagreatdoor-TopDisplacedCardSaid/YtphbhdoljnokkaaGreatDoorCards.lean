/-
  DERIVED. GIVEN WITH THE SEED: THE CARDS: each row of YtphbhdoljnokkaaGreatDoorRows.lean that lists a variable, with what it lists TIED to the program's text (the seventh form; the later family's looks); each row that meets fmt, with fmt's text TOLD by the authors' own Lean function (tested against real Go, not proved from fmt's source: count such statements apart). THE CARD IS WHAT COUNTS. Prove the row's statement (the work); the ties are given (YtphbhdoljnokkaaGreatDoorTie.lean); close each card by the builder's one call (the guide's Derived/Test/ToyasCard.lean, 'card_holds'). Laid BY PROGRAM, IN A SANDBOX (cutbox-door.mjs). By AI agents, Wed Nov 11 2026. No macro, syntax, notation, axiom, sorry.
-/
import Derived.Test.YtphbhdoljnokkaaGreatDoorRows
import GoSem.ClaimSeven
namespace Go.Proofs.YtphbhdoljnokkaaGreatDoor
namespace Rows

/-- THE TIED CARD OF 'swarftop.TopDisplaced'. -/
def topDisplacedCard : Claim7 := { stood := { row := topDisplacedRow, standIns := [], harness := (true, "9d7c678b0a85d268c00faa6617b09753573dbde874abd2d27878644775f4e009"), looks := true }, kinds := [], alts := [], laidByText := true, laidKinds := [.data, .data, .data, .data, .sentinel, .sentinel, .data, .widerDeep, .mapped, .pinned], laidTests := true, laidLooks := .later }
def TopDisplacedCardSaid : Prop := Claim7.holds Tryz.pinned (.plain (OpenSpec.ofChange topDisplacedSpec)) topDisplacedCard

/-- THE SECOND FORM's CARD OF 'swarftop.TopDisplaced'. -/
def topDisplacedUptoCard : Claim7 := { stood := { row := topDisplacedUptoRow, standIns := [], harness := (true, "9d7c678b0a85d268c00faa6617b09753573dbde874abd2d27878644775f4e009"), looks := true }, kinds := [], alts := [], laidByText := true, laidKinds := [.data, .data, .data, .data, .sentinel, .sentinel, .data, .widerDeep, .mapped, .pinned], laidTests := true, laidLooks := .later }
def TopDisplacedUptoCardSaid : Prop := Claim7.holds Tryz.pinned (.plain (OpenSpec.upto topDisplacedSpec)) topDisplacedUptoCard
end Rows
end Go.Proofs.YtphbhdoljnokkaaGreatDoor
