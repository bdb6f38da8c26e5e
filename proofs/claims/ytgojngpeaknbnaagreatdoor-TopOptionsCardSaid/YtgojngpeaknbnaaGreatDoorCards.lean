/-
  DERIVED. GIVEN WITH THE SEED: THE CARDS: each row of YtgojngpeaknbnaaGreatDoorRows.lean that lists a variable, with what it lists TIED to the program's text (the seventh form; the later family's looks); each row that meets fmt, with fmt's text TOLD by the authors' own Lean function (tested against real Go, not proved from fmt's source: count such statements apart). THE CARD IS WHAT COUNTS. Prove the row's statement (the work); the ties are given (YtgojngpeaknbnaaGreatDoorTie.lean); close each card by the builder's one call (the guide's Derived/Test/ToyasCard.lean, 'card_holds'). Laid BY PROGRAM, IN A SANDBOX (cutbox-door.mjs). By AI agents, Wed Nov 11 2026. No macro, syntax, notation, axiom, sorry.
-/
import Derived.Test.YtgojngpeaknbnaaGreatDoorRows
import GoSem.ClaimSeven
namespace Go.Proofs.YtgojngpeaknbnaaGreatDoor
namespace Rows

/-- THE TIED CARD OF 'swarftop.TopOptions'. -/
def topOptionsCard : Claim7 := { stood := { row := topOptionsRow, standIns := [], harness := (true, "bb3ec3d5b978a0f339f3dcd72ec345c6bbe704fd10aba2b595a156d8565a9f51"), looks := true }, kinds := [], alts := [], laidByText := true, laidKinds := [.data, .data, .data, .data, .sentinel, .sentinel, .data, .widerDeep, .pinned], laidTests := true, laidLooks := .later }
def TopOptionsCardSaid : Prop := Claim7.holds Tryz.pinned (.plain (OpenSpec.ofChange topOptionsSpec)) topOptionsCard

/-- THE SECOND FORM's CARD OF 'swarftop.TopOptions'. -/
def topOptionsUptoCard : Claim7 := { stood := { row := topOptionsUptoRow, standIns := [], harness := (true, "bb3ec3d5b978a0f339f3dcd72ec345c6bbe704fd10aba2b595a156d8565a9f51"), looks := true }, kinds := [], alts := [], laidByText := true, laidKinds := [.data, .data, .data, .data, .sentinel, .sentinel, .data, .widerDeep, .pinned], laidTests := true, laidLooks := .later }
def TopOptionsUptoCardSaid : Prop := Claim7.holds Tryz.pinned (.plain (OpenSpec.upto topOptionsSpec)) topOptionsUptoCard
end Rows
end Go.Proofs.YtgojngpeaknbnaaGreatDoor
