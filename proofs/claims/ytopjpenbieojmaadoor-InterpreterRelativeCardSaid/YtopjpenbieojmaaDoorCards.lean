/-
  DERIVED. GIVEN WITH THE SEED: THE CARDS: each row of YtopjpenbieojmaaDoorRows.lean that lists a variable, with what it lists TIED to the program's text (the seventh form; the later family's looks); each row that meets fmt, with fmt's text TOLD by the authors' own Lean function (tested against real Go, not proved from fmt's source: count such statements apart). THE CARD IS WHAT COUNTS. Prove the row's statement (the work); the ties are given (YtopjpenbieojmaaDoorTie.lean); close each card by the builder's one call (the guide's Derived/Test/ToyasCard.lean, 'card_holds'). Laid BY PROGRAM, IN A SANDBOX (cutbox-door.mjs). By AI agents, Wed Nov 11 2026. No macro, syntax, notation, axiom, sorry.
-/
import Derived.Test.YtopjpenbieojmaaDoorRows
import GoSem.ClaimSeven
namespace Go.Proofs.YtopjpenbieojmaaDoor
namespace Rows

/-- THE TIED CARD OF 'swarflaw47.InterpreterRelative'. -/
def interpreterRelativeCard : Claim7 := { stood := { row := interpreterRelativeRow, standIns := [], harness := (true, "d1457df608523da5c0f26abca1643f89ff4435aba269066d2cae1ac88181b3d2"), looks := false }, kinds := [], alts := [], laidByText := true, laidKinds := [.widerDeep], laidTests := true, laidLooks := .later }
def InterpreterRelativeCardSaid : Prop := Claim7.holds Tryd.pinned (.plain (OpenSpec.ofChange interpreterRelativeSpec)) interpreterRelativeCard

/-- THE TIED CARD OF 'swarflaw47.InterpreterRestored'. -/
def interpreterRestoredCard : Claim7 := { stood := { row := interpreterRestoredRow, standIns := [], harness := (true, "d1457df608523da5c0f26abca1643f89ff4435aba269066d2cae1ac88181b3d2"), looks := false }, kinds := [], alts := [], laidByText := true, laidKinds := [.widerDeep], laidTests := true, laidLooks := .later }
def InterpreterRestoredCardSaid : Prop := Claim7.holds Tryd.pinned (.plain (OpenSpec.ofChange interpreterRestoredSpec)) interpreterRestoredCard

/-- THE SECOND FORM's CARD OF 'swarflaw47.InterpreterRelative'. -/
def interpreterRelativeUptoCard : Claim7 := { stood := { row := interpreterRelativeUptoRow, standIns := [], harness := (true, "d1457df608523da5c0f26abca1643f89ff4435aba269066d2cae1ac88181b3d2"), looks := false }, kinds := [], alts := [], laidByText := true, laidKinds := [.widerDeep], laidTests := true, laidLooks := .later }
def InterpreterRelativeUptoCardSaid : Prop := Claim7.holds Tryd.pinned (.plain (OpenSpec.upto interpreterRelativeSpec)) interpreterRelativeUptoCard

/-- THE SECOND FORM's CARD OF 'swarflaw47.InterpreterRestored'. -/
def interpreterRestoredUptoCard : Claim7 := { stood := { row := interpreterRestoredUptoRow, standIns := [], harness := (true, "d1457df608523da5c0f26abca1643f89ff4435aba269066d2cae1ac88181b3d2"), looks := false }, kinds := [], alts := [], laidByText := true, laidKinds := [.widerDeep], laidTests := true, laidLooks := .later }
def InterpreterRestoredUptoCardSaid : Prop := Claim7.holds Tryd.pinned (.plain (OpenSpec.upto interpreterRestoredSpec)) interpreterRestoredUptoCard
end Rows
end Go.Proofs.YtopjpenbieojmaaDoor
