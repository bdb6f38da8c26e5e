/-
  DERIVED. GIVEN WITH THE SEED: THE CARDS: each row of YtiiglghanajfcaaDoorRows.lean that lists a variable, with what it lists TIED to the program's text (the seventh form; the later family's looks); each row that meets fmt, with fmt's text TOLD by the authors' own Lean function (tested against real Go, not proved from fmt's source: count such statements apart). THE CARD IS WHAT COUNTS. Prove the row's statement (the work); the ties are given (YtiiglghanajfcaaDoorTie.lean); close each card by the builder's one call (the guide's Derived/Test/ToyasCard.lean, 'card_holds'). Laid BY PROGRAM, IN A SANDBOX (cutbox-door.mjs). By AI agents, Wed Nov 11 2026. No macro, syntax, notation, axiom, sorry.
-/
import Derived.Test.YtiiglghanajfcaaDoorRows
import GoSem.ClaimSeven
namespace Go.Proofs.YtiiglghanajfcaaDoor
namespace Rows

/-- THE TIED CARD OF 'swarflaw45.TableValid'. -/
def tableValidCard : Claim7 := { stood := { row := tableValidRow, standIns := [], harness := (true, "06a8a98c0798206de6799372aa049d06d510846b38294d0dbc7d831c5844509c"), looks := false }, kinds := [], alts := [], laidByText := true, laidKinds := [.data, .data, .data, .data, .pinned], laidTests := true, laidLooks := .later }
def TableValidCardSaid : Prop := Claim7.holds Tryd.pinned (.plain (OpenSpec.ofChange tableValidSpec)) tableValidCard

/-- THE TIED CARD OF 'swarflaw45.TableSetWork'. -/
def tableSetWorkCard : Claim7 := { stood := { row := tableSetWorkRow, standIns := [], harness := (true, "06a8a98c0798206de6799372aa049d06d510846b38294d0dbc7d831c5844509c"), looks := false }, kinds := [], alts := [], laidByText := true, laidKinds := [.data, .data, .data, .data, .pinned], laidTests := true, laidLooks := .later }
def TableSetWorkCardSaid : Prop := Claim7.holds Tryd.pinned (.plain (OpenSpec.ofChange tableSetWorkSpec)) tableSetWorkCard

/-- THE TIED CARD OF 'swarflaw45.TableSetLength'. -/
def tableSetLengthCard : Claim7 := { stood := { row := tableSetLengthRow, standIns := [], harness := (true, "06a8a98c0798206de6799372aa049d06d510846b38294d0dbc7d831c5844509c"), looks := false }, kinds := [], alts := [], laidByText := true, laidKinds := [.data, .data, .data, .data, .pinned], laidTests := true, laidLooks := .later }
def TableSetLengthCardSaid : Prop := Claim7.holds Tryd.pinned (.plain (OpenSpec.ofChange tableSetLengthSpec)) tableSetLengthCard

/-- THE TIED CARD OF 'swarflaw45.TableMachine'. -/
def tableMachineCard : Claim7 := { stood := { row := tableMachineRow, standIns := [], harness := (true, "06a8a98c0798206de6799372aa049d06d510846b38294d0dbc7d831c5844509c"), looks := false }, kinds := [], alts := [], laidByText := true, laidKinds := [.data, .data, .data, .data, .pinned], laidTests := true, laidLooks := .later }
def TableMachineCardSaid : Prop := Claim7.holds Tryd.pinned (.plain (OpenSpec.ofChange tableMachineSpec)) tableMachineCard

/-- THE TIED CARD OF 'swarflaw45.TableInverse'. -/
def tableInverseCard : Claim7 := { stood := { row := tableInverseRow, standIns := [], harness := (true, "06a8a98c0798206de6799372aa049d06d510846b38294d0dbc7d831c5844509c"), looks := false }, kinds := [], alts := [], laidByText := true, laidKinds := [.data, .data, .data, .data, .pinned], laidTests := true, laidLooks := .later }
def TableInverseCardSaid : Prop := Claim7.holds Tryd.pinned (.plain (OpenSpec.ofChange tableInverseSpec)) tableInverseCard

/-- THE SECOND FORM's CARD OF 'swarflaw45.TableValid'. -/
def tableValidUptoCard : Claim7 := { stood := { row := tableValidUptoRow, standIns := [], harness := (true, "06a8a98c0798206de6799372aa049d06d510846b38294d0dbc7d831c5844509c"), looks := false }, kinds := [], alts := [], laidByText := true, laidKinds := [.data, .data, .data, .data, .pinned], laidTests := true, laidLooks := .later }
def TableValidUptoCardSaid : Prop := Claim7.holds Tryd.pinned (.plain (OpenSpec.upto tableValidSpec)) tableValidUptoCard

/-- THE SECOND FORM's CARD OF 'swarflaw45.TableSetWork'. -/
def tableSetWorkUptoCard : Claim7 := { stood := { row := tableSetWorkUptoRow, standIns := [], harness := (true, "06a8a98c0798206de6799372aa049d06d510846b38294d0dbc7d831c5844509c"), looks := false }, kinds := [], alts := [], laidByText := true, laidKinds := [.data, .data, .data, .data, .pinned], laidTests := true, laidLooks := .later }
def TableSetWorkUptoCardSaid : Prop := Claim7.holds Tryd.pinned (.plain (OpenSpec.upto tableSetWorkSpec)) tableSetWorkUptoCard

/-- THE SECOND FORM's CARD OF 'swarflaw45.TableSetLength'. -/
def tableSetLengthUptoCard : Claim7 := { stood := { row := tableSetLengthUptoRow, standIns := [], harness := (true, "06a8a98c0798206de6799372aa049d06d510846b38294d0dbc7d831c5844509c"), looks := false }, kinds := [], alts := [], laidByText := true, laidKinds := [.data, .data, .data, .data, .pinned], laidTests := true, laidLooks := .later }
def TableSetLengthUptoCardSaid : Prop := Claim7.holds Tryd.pinned (.plain (OpenSpec.upto tableSetLengthSpec)) tableSetLengthUptoCard

/-- THE SECOND FORM's CARD OF 'swarflaw45.TableMachine'. -/
def tableMachineUptoCard : Claim7 := { stood := { row := tableMachineUptoRow, standIns := [], harness := (true, "06a8a98c0798206de6799372aa049d06d510846b38294d0dbc7d831c5844509c"), looks := false }, kinds := [], alts := [], laidByText := true, laidKinds := [.data, .data, .data, .data, .pinned], laidTests := true, laidLooks := .later }
def TableMachineUptoCardSaid : Prop := Claim7.holds Tryd.pinned (.plain (OpenSpec.upto tableMachineSpec)) tableMachineUptoCard

/-- THE SECOND FORM's CARD OF 'swarflaw45.TableInverse'. -/
def tableInverseUptoCard : Claim7 := { stood := { row := tableInverseUptoRow, standIns := [], harness := (true, "06a8a98c0798206de6799372aa049d06d510846b38294d0dbc7d831c5844509c"), looks := false }, kinds := [], alts := [], laidByText := true, laidKinds := [.data, .data, .data, .data, .pinned], laidTests := true, laidLooks := .later }
def TableInverseUptoCardSaid : Prop := Claim7.holds Tryd.pinned (.plain (OpenSpec.upto tableInverseSpec)) tableInverseUptoCard
end Rows
end Go.Proofs.YtiiglghanajfcaaDoor
