/-
  DERIVED. GIVEN WITH THE SEED: THE CARDS: each row of YtlcfgpjgjdjpoaaDoorRows.lean that lists a variable, with what it lists TIED to the program's text (the seventh form; the later family's looks); each row that meets fmt, with fmt's text TOLD by the authors' own Lean function (tested against real Go, not proved from fmt's source: count such statements apart). THE CARD IS WHAT COUNTS. Prove the row's statement (the work); the ties are given (YtlcfgpjgjdjpoaaDoorTie.lean); close each card by the builder's one call (the guide's Derived/Test/ToyasCard.lean, 'card_holds'). Laid BY PROGRAM, IN A SANDBOX (cutbox-door.mjs). By AI agents, Wed Nov 11 2026. No macro, syntax, notation, axiom, sorry.
-/
import Derived.Test.YtlcfgpjgjdjpoaaDoorRows
import GoSem.ClaimSeven
namespace Go.Proofs.YtlcfgpjgjdjpoaaDoor
namespace Rows

/-- THE TIED CARD OF 'swarflaw47.InterpreterRelative'. -/
def interpreterRelativeCard : Claim7 := { stood := { row := interpreterRelativeRow, standIns := [], harness := (true, "50acf1b449e2b1b2b9169cbbfd4b796632b3e7e30db347f448429a1d429a84f1"), looks := false }, kinds := [], alts := [], laidByText := true, laidKinds := [.widerDeep], laidTests := true, laidLooks := .later }
def InterpreterRelativeCardSaid : Prop := Claim7.holds Tryd.pinned (.plain (OpenSpec.ofChange interpreterRelativeSpec)) interpreterRelativeCard

/-- THE TIED CARD OF 'swarflaw47.InterpreterMoved'. -/
def interpreterMovedCard : Claim7 := { stood := { row := interpreterMovedRow, standIns := [], harness := (true, "50acf1b449e2b1b2b9169cbbfd4b796632b3e7e30db347f448429a1d429a84f1"), looks := false }, kinds := [], alts := [], laidByText := true, laidKinds := [.widerDeep], laidTests := true, laidLooks := .later }
def InterpreterMovedCardSaid : Prop := Claim7.holds Tryd.pinned (.plain (OpenSpec.ofChange interpreterMovedSpec)) interpreterMovedCard

/-- THE TIED CARD OF 'swarflaw47.InterpreterParts'. -/
def interpreterPartsCard : Claim7 := { stood := { row := interpreterPartsRow, standIns := [], harness := (true, "50acf1b449e2b1b2b9169cbbfd4b796632b3e7e30db347f448429a1d429a84f1"), looks := false }, kinds := [], alts := [], laidByText := true, laidKinds := [.widerDeep], laidTests := true, laidLooks := .later }
def InterpreterPartsCardSaid : Prop := Claim7.holds Tryd.pinned (.plain (OpenSpec.ofChange interpreterPartsSpec)) interpreterPartsCard

/-- THE TIED CARD OF 'swarflaw47.InterpreterRange'. -/
def interpreterRangeCard : Claim7 := { stood := { row := interpreterRangeRow, standIns := [], harness := (true, "50acf1b449e2b1b2b9169cbbfd4b796632b3e7e30db347f448429a1d429a84f1"), looks := false }, kinds := [], alts := [], laidByText := true, laidKinds := [.widerDeep], laidTests := true, laidLooks := .later }
def InterpreterRangeCardSaid : Prop := Claim7.holds Tryd.pinned (.plain (OpenSpec.ofChange interpreterRangeSpec)) interpreterRangeCard

/-- THE TIED CARD OF 'swarflaw47.InterpreterStates'. -/
def interpreterStatesCard : Claim7 := { stood := { row := interpreterStatesRow, standIns := [], harness := (true, "50acf1b449e2b1b2b9169cbbfd4b796632b3e7e30db347f448429a1d429a84f1"), looks := false }, kinds := [], alts := [], laidByText := true, laidKinds := [.widerDeep], laidTests := true, laidLooks := .later }
def InterpreterStatesCardSaid : Prop := Claim7.holds Tryd.pinned (.plain (OpenSpec.ofChange interpreterStatesSpec)) interpreterStatesCard

/-- THE TIED CARD OF 'swarflaw47.InterpreterRestored'. -/
def interpreterRestoredCard : Claim7 := { stood := { row := interpreterRestoredRow, standIns := [], harness := (true, "50acf1b449e2b1b2b9169cbbfd4b796632b3e7e30db347f448429a1d429a84f1"), looks := false }, kinds := [], alts := [], laidByText := true, laidKinds := [.widerDeep], laidTests := true, laidLooks := .later }
def InterpreterRestoredCardSaid : Prop := Claim7.holds Tryd.pinned (.plain (OpenSpec.ofChange interpreterRestoredSpec)) interpreterRestoredCard

/-- THE SECOND FORM's CARD OF 'swarflaw47.InterpreterRelative'. -/
def interpreterRelativeUptoCard : Claim7 := { stood := { row := interpreterRelativeUptoRow, standIns := [], harness := (true, "50acf1b449e2b1b2b9169cbbfd4b796632b3e7e30db347f448429a1d429a84f1"), looks := false }, kinds := [], alts := [], laidByText := true, laidKinds := [.widerDeep], laidTests := true, laidLooks := .later }
def InterpreterRelativeUptoCardSaid : Prop := Claim7.holds Tryd.pinned (.plain (OpenSpec.upto interpreterRelativeSpec)) interpreterRelativeUptoCard

/-- THE SECOND FORM's CARD OF 'swarflaw47.InterpreterMoved'. -/
def interpreterMovedUptoCard : Claim7 := { stood := { row := interpreterMovedUptoRow, standIns := [], harness := (true, "50acf1b449e2b1b2b9169cbbfd4b796632b3e7e30db347f448429a1d429a84f1"), looks := false }, kinds := [], alts := [], laidByText := true, laidKinds := [.widerDeep], laidTests := true, laidLooks := .later }
def InterpreterMovedUptoCardSaid : Prop := Claim7.holds Tryd.pinned (.plain (OpenSpec.upto interpreterMovedSpec)) interpreterMovedUptoCard

/-- THE SECOND FORM's CARD OF 'swarflaw47.InterpreterParts'. -/
def interpreterPartsUptoCard : Claim7 := { stood := { row := interpreterPartsUptoRow, standIns := [], harness := (true, "50acf1b449e2b1b2b9169cbbfd4b796632b3e7e30db347f448429a1d429a84f1"), looks := false }, kinds := [], alts := [], laidByText := true, laidKinds := [.widerDeep], laidTests := true, laidLooks := .later }
def InterpreterPartsUptoCardSaid : Prop := Claim7.holds Tryd.pinned (.plain (OpenSpec.upto interpreterPartsSpec)) interpreterPartsUptoCard

/-- THE SECOND FORM's CARD OF 'swarflaw47.InterpreterRange'. -/
def interpreterRangeUptoCard : Claim7 := { stood := { row := interpreterRangeUptoRow, standIns := [], harness := (true, "50acf1b449e2b1b2b9169cbbfd4b796632b3e7e30db347f448429a1d429a84f1"), looks := false }, kinds := [], alts := [], laidByText := true, laidKinds := [.widerDeep], laidTests := true, laidLooks := .later }
def InterpreterRangeUptoCardSaid : Prop := Claim7.holds Tryd.pinned (.plain (OpenSpec.upto interpreterRangeSpec)) interpreterRangeUptoCard

/-- THE SECOND FORM's CARD OF 'swarflaw47.InterpreterStates'. -/
def interpreterStatesUptoCard : Claim7 := { stood := { row := interpreterStatesUptoRow, standIns := [], harness := (true, "50acf1b449e2b1b2b9169cbbfd4b796632b3e7e30db347f448429a1d429a84f1"), looks := false }, kinds := [], alts := [], laidByText := true, laidKinds := [.widerDeep], laidTests := true, laidLooks := .later }
def InterpreterStatesUptoCardSaid : Prop := Claim7.holds Tryd.pinned (.plain (OpenSpec.upto interpreterStatesSpec)) interpreterStatesUptoCard

/-- THE SECOND FORM's CARD OF 'swarflaw47.InterpreterRestored'. -/
def interpreterRestoredUptoCard : Claim7 := { stood := { row := interpreterRestoredUptoRow, standIns := [], harness := (true, "50acf1b449e2b1b2b9169cbbfd4b796632b3e7e30db347f448429a1d429a84f1"), looks := false }, kinds := [], alts := [], laidByText := true, laidKinds := [.widerDeep], laidTests := true, laidLooks := .later }
def InterpreterRestoredUptoCardSaid : Prop := Claim7.holds Tryd.pinned (.plain (OpenSpec.upto interpreterRestoredSpec)) interpreterRestoredUptoCard
end Rows
end Go.Proofs.YtlcfgpjgjdjpoaaDoor
