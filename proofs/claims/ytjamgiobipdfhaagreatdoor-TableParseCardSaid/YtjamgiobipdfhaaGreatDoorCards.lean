/-
  DERIVED. GIVEN WITH THE SEED: THE CARDS: each row of YtjamgiobipdfhaaGreatDoorRows.lean that lists a variable, with what it lists TIED to the program's text (the seventh form; the later family's looks); each row that meets fmt, with fmt's text TOLD by the authors' own Lean function (tested against real Go, not proved from fmt's source: count such statements apart). THE CARD IS WHAT COUNTS. Prove the row's statement (the work); the ties are given (YtjamgiobipdfhaaGreatDoorTie.lean); close each card by the builder's one call (the guide's Derived/Test/ToyasCard.lean, 'card_holds'). Laid BY PROGRAM, IN A SANDBOX (cutbox-door.mjs). By AI agents, Wed Nov 11 2026. No macro, syntax, notation, axiom, sorry.
-/
import Derived.Test.YtjamgiobipdfhaaGreatDoorRows
import GoSem.ClaimSeven
namespace Go.Proofs.YtjamgiobipdfhaaGreatDoor
namespace Rows

/-- THE TIED CARD OF 'swarflaw45.TableText'. -/
def tableTextCard : Claim7 := { stood := { row := tableTextRow, standIns := [], harness := (true, "14ec94059d955295b1caf03428469f14b3750d8f8fed69f656b719af4125ebbd"), looks := true }, kinds := [], alts := [], laidByText := true, laidKinds := [.data, .data, .data, .data, .sentinel, .sentinel, .pinned], laidTests := true, laidLooks := .later }
def TableTextCardSaid : Prop := Claim7.holds Tryz.pinned (.plain (OpenSpec.ofChange tableTextSpec)) tableTextCard

/-- THE TIED CARD OF 'swarflaw45.TableParse'. -/
def tableParseCard : Claim7 := { stood := { row := tableParseRow, standIns := [], harness := (true, "14ec94059d955295b1caf03428469f14b3750d8f8fed69f656b719af4125ebbd"), looks := true }, kinds := [], alts := [], laidByText := true, laidKinds := [.data, .data, .data, .data, .sentinel, .sentinel, .pinned], laidTests := true, laidLooks := .later }
def TableParseCardSaid : Prop := Claim7.holds Tryz.pinned (.plain (OpenSpec.ofChange tableParseSpec)) tableParseCard

/-- THE SECOND FORM's CARD OF 'swarflaw45.TableText'. -/
def tableTextUptoCard : Claim7 := { stood := { row := tableTextUptoRow, standIns := [], harness := (true, "14ec94059d955295b1caf03428469f14b3750d8f8fed69f656b719af4125ebbd"), looks := true }, kinds := [], alts := [], laidByText := true, laidKinds := [.data, .data, .data, .data, .sentinel, .sentinel, .pinned], laidTests := true, laidLooks := .later }
def TableTextUptoCardSaid : Prop := Claim7.holds Tryz.pinned (.plain (OpenSpec.upto tableTextSpec)) tableTextUptoCard

/-- THE SECOND FORM's CARD OF 'swarflaw45.TableParse'. -/
def tableParseUptoCard : Claim7 := { stood := { row := tableParseUptoRow, standIns := [], harness := (true, "14ec94059d955295b1caf03428469f14b3750d8f8fed69f656b719af4125ebbd"), looks := true }, kinds := [], alts := [], laidByText := true, laidKinds := [.data, .data, .data, .data, .sentinel, .sentinel, .pinned], laidTests := true, laidLooks := .later }
def TableParseUptoCardSaid : Prop := Claim7.holds Tryz.pinned (.plain (OpenSpec.upto tableParseSpec)) tableParseUptoCard
end Rows
end Go.Proofs.YtjamgiobipdfhaaGreatDoor
