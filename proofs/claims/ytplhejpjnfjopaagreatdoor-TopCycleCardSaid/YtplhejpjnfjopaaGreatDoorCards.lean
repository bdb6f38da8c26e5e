/-
  DERIVED. GIVEN WITH THE SEED: THE CARDS: each row of YtplhejpjnfjopaaGreatDoorRows.lean that lists a variable, with what it lists TIED to the program's text (the seventh form; the later family's looks); each row that meets fmt, with fmt's text TOLD by the authors' own Lean function (tested against real Go, not proved from fmt's source: count such statements apart). THE CARD IS WHAT COUNTS. Prove the row's statement (the work); the ties are given (YtplhejpjnfjopaaGreatDoorTie.lean); close each card by the builder's one call (the guide's Derived/Test/ToyasCard.lean, 'card_holds'). Laid BY PROGRAM, IN A SANDBOX (cutbox-door.mjs). By AI agents, Wed Nov 11 2026. No macro, syntax, notation, axiom, sorry.
-/
import Derived.Test.YtplhejpjnfjopaaGreatDoorRows
import GoSem.ClaimSeven
namespace Go.Proofs.YtplhejpjnfjopaaGreatDoor
namespace Rows

/-- THE TIED CARD OF 'swarftop.TopOptions'. -/
def topOptionsCard : Claim7 := { stood := { row := topOptionsRow, standIns := [], harness := (true, "c88ca7dcf8049e29908af531297404b70a09d880b044cffb5c7ac6ec1c74a33f"), looks := true }, kinds := [], alts := [], laidByText := true, laidKinds := [.data, .data, .data, .data, .sentinel, .sentinel, .data, .widerDeep, .pinned], laidTests := true, laidLooks := .later }
def TopOptionsCardSaid : Prop := Claim7.holds Tryz.pinned (.plain (OpenSpec.ofChange topOptionsSpec)) topOptionsCard

/-- THE TIED CARD OF 'swarftop.TopFolded'. -/
def topFoldedCard : Claim7 := { stood := { row := topFoldedRow, standIns := [], harness := (true, "c88ca7dcf8049e29908af531297404b70a09d880b044cffb5c7ac6ec1c74a33f"), looks := true }, kinds := [], alts := [], laidByText := true, laidKinds := [.data, .data, .data, .data, .sentinel, .sentinel, .data, .widerDeep, .pinned], laidTests := true, laidLooks := .later }
def TopFoldedCardSaid : Prop := Claim7.holds Tryz.pinned (.plain (OpenSpec.ofChange topFoldedSpec)) topFoldedCard

/-- THE TIED CARD OF 'swarftop.TopCycle'. -/
def topCycleCard : Claim7 := { stood := { row := topCycleRow, standIns := [], harness := (true, "c88ca7dcf8049e29908af531297404b70a09d880b044cffb5c7ac6ec1c74a33f"), looks := true }, kinds := [], alts := [], laidByText := true, laidKinds := [.data, .data, .data, .data, .sentinel, .sentinel, .data, .widerDeep, .pinned], laidTests := true, laidLooks := .later }
def TopCycleCardSaid : Prop := Claim7.holds Tryz.pinned (.plain (OpenSpec.ofChange topCycleSpec)) topCycleCard

/-- THE TIED CARD OF 'swarftop.TopProgram'. -/
def topProgramCard : Claim7 := { stood := { row := topProgramRow, standIns := [], harness := (true, "c88ca7dcf8049e29908af531297404b70a09d880b044cffb5c7ac6ec1c74a33f"), looks := true }, kinds := [], alts := [], laidByText := true, laidKinds := [.data, .data, .data, .data, .sentinel, .sentinel, .data, .widerDeep, .pinned], laidTests := true, laidLooks := .later }
def TopProgramCardSaid : Prop := Claim7.holds Tryz.pinned (.plain (OpenSpec.ofChange topProgramSpec)) topProgramCard

/-- THE SECOND FORM's CARD OF 'swarftop.TopOptions'. -/
def topOptionsUptoCard : Claim7 := { stood := { row := topOptionsUptoRow, standIns := [], harness := (true, "c88ca7dcf8049e29908af531297404b70a09d880b044cffb5c7ac6ec1c74a33f"), looks := true }, kinds := [], alts := [], laidByText := true, laidKinds := [.data, .data, .data, .data, .sentinel, .sentinel, .data, .widerDeep, .pinned], laidTests := true, laidLooks := .later }
def TopOptionsUptoCardSaid : Prop := Claim7.holds Tryz.pinned (.plain (OpenSpec.upto topOptionsSpec)) topOptionsUptoCard

/-- THE SECOND FORM's CARD OF 'swarftop.TopFolded'. -/
def topFoldedUptoCard : Claim7 := { stood := { row := topFoldedUptoRow, standIns := [], harness := (true, "c88ca7dcf8049e29908af531297404b70a09d880b044cffb5c7ac6ec1c74a33f"), looks := true }, kinds := [], alts := [], laidByText := true, laidKinds := [.data, .data, .data, .data, .sentinel, .sentinel, .data, .widerDeep, .pinned], laidTests := true, laidLooks := .later }
def TopFoldedUptoCardSaid : Prop := Claim7.holds Tryz.pinned (.plain (OpenSpec.upto topFoldedSpec)) topFoldedUptoCard

/-- THE SECOND FORM's CARD OF 'swarftop.TopCycle'. -/
def topCycleUptoCard : Claim7 := { stood := { row := topCycleUptoRow, standIns := [], harness := (true, "c88ca7dcf8049e29908af531297404b70a09d880b044cffb5c7ac6ec1c74a33f"), looks := true }, kinds := [], alts := [], laidByText := true, laidKinds := [.data, .data, .data, .data, .sentinel, .sentinel, .data, .widerDeep, .pinned], laidTests := true, laidLooks := .later }
def TopCycleUptoCardSaid : Prop := Claim7.holds Tryz.pinned (.plain (OpenSpec.upto topCycleSpec)) topCycleUptoCard

/-- THE SECOND FORM's CARD OF 'swarftop.TopProgram'. -/
def topProgramUptoCard : Claim7 := { stood := { row := topProgramUptoRow, standIns := [], harness := (true, "c88ca7dcf8049e29908af531297404b70a09d880b044cffb5c7ac6ec1c74a33f"), looks := true }, kinds := [], alts := [], laidByText := true, laidKinds := [.data, .data, .data, .data, .sentinel, .sentinel, .data, .widerDeep, .pinned], laidTests := true, laidLooks := .later }
def TopProgramUptoCardSaid : Prop := Claim7.holds Tryz.pinned (.plain (OpenSpec.upto topProgramSpec)) topProgramUptoCard
end Rows
end Go.Proofs.YtplhejpjnfjopaaGreatDoor
