/-
  DERIVED. GIVEN WITH THE SEED: THE CARDS: each row of YtjgngikiglhleaaGreatDoorRows.lean that lists a variable, with what it lists TIED to the program's text (the seventh form; the later family's looks); each row that meets fmt, with fmt's text TOLD by the authors' own Lean function (tested against real Go, not proved from fmt's source: count such statements apart). THE CARD IS WHAT COUNTS. Prove the row's statement (the work); the ties are given (YtjgngikiglhleaaGreatDoorTie.lean); close each card by the builder's one call (the guide's Derived/Test/ToyasCard.lean, 'card_holds'). Laid BY PROGRAM, IN A SANDBOX (cutbox-door.mjs). By AI agents, Wed Nov 11 2026. No macro, syntax, notation, axiom, sorry.
-/
import Derived.Test.YtjgngikiglhleaaGreatDoorRows
import GoSem.ClaimSeven
namespace Go.Proofs.YtjgngikiglhleaaGreatDoor
namespace Rows

/-- THE TIED CARD OF 'swarflaw46.PostExpand'. -/
def postExpandCard : Claim7 := { stood := { row := postExpandRow, standIns := [], harness := (true, "5c64b58f267bd40cdbfeb67148946736ccfeadfe95f1105906e56d81d39ca741"), looks := false }, kinds := [], alts := [], laidByText := true, laidKinds := [.data, .data, .data, .data, .data, .pinned], laidTests := true, laidLooks := .later }
def PostExpandCardSaid : Prop := Claim7.holds Tryz.pinned (.plain (OpenSpec.ofChange postExpandSpec)) postExpandCard

/-- THE SECOND FORM's CARD OF 'swarflaw46.PostExpand'. -/
def postExpandUptoCard : Claim7 := { stood := { row := postExpandUptoRow, standIns := [], harness := (true, "5c64b58f267bd40cdbfeb67148946736ccfeadfe95f1105906e56d81d39ca741"), looks := false }, kinds := [], alts := [], laidByText := true, laidKinds := [.data, .data, .data, .data, .data, .pinned], laidTests := true, laidLooks := .later }
def PostExpandUptoCardSaid : Prop := Claim7.holds Tryz.pinned (.plain (OpenSpec.upto postExpandSpec)) postExpandUptoCard
end Rows
end Go.Proofs.YtjgngikiglhleaaGreatDoor
