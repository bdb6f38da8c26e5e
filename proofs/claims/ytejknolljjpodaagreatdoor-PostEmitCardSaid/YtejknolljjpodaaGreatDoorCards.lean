/-
  DERIVED. GIVEN WITH THE SEED: THE CARDS: each row of YtejknolljjpodaaGreatDoorRows.lean that lists a variable, with what it lists TIED to the program's text (the seventh form; the later family's looks); each row that meets fmt, with fmt's text TOLD by the authors' own Lean function (tested against real Go, not proved from fmt's source: count such statements apart). THE CARD IS WHAT COUNTS. Prove the row's statement (the work); the ties are given (YtejknolljjpodaaGreatDoorTie.lean); close each card by the builder's one call (the guide's Derived/Test/ToyasCard.lean, 'card_holds'). Laid BY PROGRAM, IN A SANDBOX (cutbox-door.mjs). By AI agents, Wed Nov 11 2026. No macro, syntax, notation, axiom, sorry.
-/
import Derived.Test.YtejknolljjpodaaGreatDoorRows
import GoSem.ClaimSeven
namespace Go.Proofs.YtejknolljjpodaaGreatDoor
namespace Rows

/-- THE TIED CARD OF 'swarflaw46.PostMove'. -/
def postMoveCard : Claim7 := { stood := { row := postMoveRow, standIns := [], harness := (true, "f49c905d2faeedddd73f9b29ca8797c9d04cdf9c24cb3b3190061454624477e0"), looks := true }, kinds := [], alts := [], laidByText := true, laidKinds := [.data, .data, .data, .data, .data, .pinned], laidTests := true, laidLooks := .later }
def PostMoveCardSaid : Prop := Claim7.holds Tryz.pinned (.plain (OpenSpec.ofChange postMoveSpec)) postMoveCard

/-- THE TIED CARD OF 'swarflaw46.PostChange'. -/
def postChangeCard : Claim7 := { stood := { row := postChangeRow, standIns := [], harness := (true, "f49c905d2faeedddd73f9b29ca8797c9d04cdf9c24cb3b3190061454624477e0"), looks := true }, kinds := [], alts := [], laidByText := true, laidKinds := [.data, .data, .data, .data, .data, .pinned], laidTests := true, laidLooks := .later }
def PostChangeCardSaid : Prop := Claim7.holds Tryz.pinned (.plain (OpenSpec.ofChange postChangeSpec)) postChangeCard

/-- THE TIED CARD OF 'swarflaw46.PostBlocks'. -/
def postBlocksCard : Claim7 := { stood := { row := postBlocksRow, standIns := [], harness := (true, "f49c905d2faeedddd73f9b29ca8797c9d04cdf9c24cb3b3190061454624477e0"), looks := true }, kinds := [], alts := [], laidByText := true, laidKinds := [.data, .data, .data, .data, .data, .pinned], laidTests := true, laidLooks := .later }
def PostBlocksCardSaid : Prop := Claim7.holds Tryz.pinned (.plain (OpenSpec.ofChange postBlocksSpec)) postBlocksCard

/-- THE TIED CARD OF 'swarflaw46.PostState'. -/
def postStateCard : Claim7 := { stood := { row := postStateRow, standIns := [], harness := (true, "f49c905d2faeedddd73f9b29ca8797c9d04cdf9c24cb3b3190061454624477e0"), looks := true }, kinds := [], alts := [], laidByText := true, laidKinds := [.data, .data, .data, .data, .data, .pinned], laidTests := true, laidLooks := .later }
def PostStateCardSaid : Prop := Claim7.holds Tryz.pinned (.plain (OpenSpec.ofChange postStateSpec)) postStateCard

/-- THE TIED CARD OF 'swarflaw46.PostExpand'. -/
def postExpandCard : Claim7 := { stood := { row := postExpandRow, standIns := [], harness := (true, "f49c905d2faeedddd73f9b29ca8797c9d04cdf9c24cb3b3190061454624477e0"), looks := true }, kinds := [], alts := [], laidByText := true, laidKinds := [.data, .data, .data, .data, .data, .pinned], laidTests := true, laidLooks := .later }
def PostExpandCardSaid : Prop := Claim7.holds Tryz.pinned (.plain (OpenSpec.ofChange postExpandSpec)) postExpandCard

/-- THE TIED CARD OF 'swarflaw46.PostEmit'. -/
def postEmitCard : Claim7 := { stood := { row := postEmitRow, standIns := [], harness := (true, "f49c905d2faeedddd73f9b29ca8797c9d04cdf9c24cb3b3190061454624477e0"), looks := true }, kinds := [], alts := [], laidByText := true, laidKinds := [.data, .data, .data, .data, .sentinel, .sentinel, .data, .pinned], laidTests := true, laidLooks := .later }
def PostEmitCardSaid : Prop := Claim7.holds Tryz.pinned (.plain (OpenSpec.ofChange postEmitSpec)) postEmitCard

/-- THE SECOND FORM's CARD OF 'swarflaw46.PostMove'. -/
def postMoveUptoCard : Claim7 := { stood := { row := postMoveUptoRow, standIns := [], harness := (true, "f49c905d2faeedddd73f9b29ca8797c9d04cdf9c24cb3b3190061454624477e0"), looks := true }, kinds := [], alts := [], laidByText := true, laidKinds := [.data, .data, .data, .data, .data, .pinned], laidTests := true, laidLooks := .later }
def PostMoveUptoCardSaid : Prop := Claim7.holds Tryz.pinned (.plain (OpenSpec.upto postMoveSpec)) postMoveUptoCard

/-- THE SECOND FORM's CARD OF 'swarflaw46.PostChange'. -/
def postChangeUptoCard : Claim7 := { stood := { row := postChangeUptoRow, standIns := [], harness := (true, "f49c905d2faeedddd73f9b29ca8797c9d04cdf9c24cb3b3190061454624477e0"), looks := true }, kinds := [], alts := [], laidByText := true, laidKinds := [.data, .data, .data, .data, .data, .pinned], laidTests := true, laidLooks := .later }
def PostChangeUptoCardSaid : Prop := Claim7.holds Tryz.pinned (.plain (OpenSpec.upto postChangeSpec)) postChangeUptoCard

/-- THE SECOND FORM's CARD OF 'swarflaw46.PostBlocks'. -/
def postBlocksUptoCard : Claim7 := { stood := { row := postBlocksUptoRow, standIns := [], harness := (true, "f49c905d2faeedddd73f9b29ca8797c9d04cdf9c24cb3b3190061454624477e0"), looks := true }, kinds := [], alts := [], laidByText := true, laidKinds := [.data, .data, .data, .data, .data, .pinned], laidTests := true, laidLooks := .later }
def PostBlocksUptoCardSaid : Prop := Claim7.holds Tryz.pinned (.plain (OpenSpec.upto postBlocksSpec)) postBlocksUptoCard

/-- THE SECOND FORM's CARD OF 'swarflaw46.PostState'. -/
def postStateUptoCard : Claim7 := { stood := { row := postStateUptoRow, standIns := [], harness := (true, "f49c905d2faeedddd73f9b29ca8797c9d04cdf9c24cb3b3190061454624477e0"), looks := true }, kinds := [], alts := [], laidByText := true, laidKinds := [.data, .data, .data, .data, .data, .pinned], laidTests := true, laidLooks := .later }
def PostStateUptoCardSaid : Prop := Claim7.holds Tryz.pinned (.plain (OpenSpec.upto postStateSpec)) postStateUptoCard

/-- THE SECOND FORM's CARD OF 'swarflaw46.PostExpand'. -/
def postExpandUptoCard : Claim7 := { stood := { row := postExpandUptoRow, standIns := [], harness := (true, "f49c905d2faeedddd73f9b29ca8797c9d04cdf9c24cb3b3190061454624477e0"), looks := true }, kinds := [], alts := [], laidByText := true, laidKinds := [.data, .data, .data, .data, .data, .pinned], laidTests := true, laidLooks := .later }
def PostExpandUptoCardSaid : Prop := Claim7.holds Tryz.pinned (.plain (OpenSpec.upto postExpandSpec)) postExpandUptoCard

/-- THE SECOND FORM's CARD OF 'swarflaw46.PostEmit'. -/
def postEmitUptoCard : Claim7 := { stood := { row := postEmitUptoRow, standIns := [], harness := (true, "f49c905d2faeedddd73f9b29ca8797c9d04cdf9c24cb3b3190061454624477e0"), looks := true }, kinds := [], alts := [], laidByText := true, laidKinds := [.data, .data, .data, .data, .sentinel, .sentinel, .data, .pinned], laidTests := true, laidLooks := .later }
def PostEmitUptoCardSaid : Prop := Claim7.holds Tryz.pinned (.plain (OpenSpec.upto postEmitSpec)) postEmitUptoCard
end Rows
end Go.Proofs.YtejknolljjpodaaGreatDoor
