/-
  DERIVED. GIVEN WITH THE SEED: THE CARDS: each row of YtpdjgamdnjfmkaaDoorRows.lean that lists a variable, with what it lists TIED to the program's text (the seventh form; the later family's looks); each row that meets fmt, with fmt's text TOLD by the authors' own Lean function (tested against real Go, not proved from fmt's source: count such statements apart). THE CARD IS WHAT COUNTS. Prove the row's statement (the work); the ties are given (YtpdjgamdnjfmkaaDoorTie.lean); close each card by the builder's one call (the guide's Derived/Test/ToyasCard.lean, 'card_holds'). Laid BY PROGRAM, IN A SANDBOX (cutbox-door.mjs). By AI agents, Wed Nov 11 2026. No macro, syntax, notation, axiom, sorry.
-/
import Derived.Test.YtpdjgamdnjfmkaaDoorRows
import GoSem.ClaimSeven
namespace Go.Proofs.YtpdjgamdnjfmkaaDoor
namespace Rows

/-- THE TIED CARD OF 'swarflaw21.LexerCovers'. -/
def lexerCoversCard : Claim7 := { stood := { row := lexerCoversRow, standIns := [], harness := (true, "3231340cd5b75c13ea4f9ad9116a0f7f0dca0cc5b1e9ad81cdaea547ef61ed80"), looks := false }, kinds := [], alts := [], laidByText := true, laidKinds := [.data, .pinned], laidTests := true, laidLooks := .later }
def LexerCoversCardSaid : Prop := Claim7.holds Tryd.pinned (.plain (OpenSpec.ofChange lexerCoversSpec)) lexerCoversCard

/-- THE TIED CARD OF 'swarflaw21.LexerJoined'. -/
def lexerJoinedCard : Claim7 := { stood := { row := lexerJoinedRow, standIns := [], harness := (true, "3231340cd5b75c13ea4f9ad9116a0f7f0dca0cc5b1e9ad81cdaea547ef61ed80"), looks := false }, kinds := [], alts := [], laidByText := true, laidKinds := [.data, .pinned], laidTests := true, laidLooks := .later }
def LexerJoinedCardSaid : Prop := Claim7.holds Tryd.pinned (.plain (OpenSpec.ofChange lexerJoinedSpec)) lexerJoinedCard

/-- THE TIED CARD OF 'swarflaw21.LexerComment'. -/
def lexerCommentCard : Claim7 := { stood := { row := lexerCommentRow, standIns := [], harness := (true, "3231340cd5b75c13ea4f9ad9116a0f7f0dca0cc5b1e9ad81cdaea547ef61ed80"), looks := false }, kinds := [], alts := [], laidByText := true, laidKinds := [.data, .pinned], laidTests := true, laidLooks := .later }
def LexerCommentCardSaid : Prop := Claim7.holds Tryd.pinned (.plain (OpenSpec.ofChange lexerCommentSpec)) lexerCommentCard

/-- THE TIED CARD OF 'swarflaw21.LexerName'. -/
def lexerNameCard : Claim7 := { stood := { row := lexerNameRow, standIns := [], harness := (true, "3231340cd5b75c13ea4f9ad9116a0f7f0dca0cc5b1e9ad81cdaea547ef61ed80"), looks := false }, kinds := [], alts := [], laidByText := true, laidKinds := [.data, .pinned], laidTests := true, laidLooks := .later }
def LexerNameCardSaid : Prop := Claim7.holds Tryd.pinned (.plain (OpenSpec.ofChange lexerNameSpec)) lexerNameCard

/-- THE SECOND FORM's CARD OF 'swarflaw21.LexerCovers'. -/
def lexerCoversUptoCard : Claim7 := { stood := { row := lexerCoversUptoRow, standIns := [], harness := (true, "3231340cd5b75c13ea4f9ad9116a0f7f0dca0cc5b1e9ad81cdaea547ef61ed80"), looks := false }, kinds := [], alts := [], laidByText := true, laidKinds := [.data, .pinned], laidTests := true, laidLooks := .later }
def LexerCoversUptoCardSaid : Prop := Claim7.holds Tryd.pinned (.plain (OpenSpec.upto lexerCoversSpec)) lexerCoversUptoCard

/-- THE SECOND FORM's CARD OF 'swarflaw21.LexerJoined'. -/
def lexerJoinedUptoCard : Claim7 := { stood := { row := lexerJoinedUptoRow, standIns := [], harness := (true, "3231340cd5b75c13ea4f9ad9116a0f7f0dca0cc5b1e9ad81cdaea547ef61ed80"), looks := false }, kinds := [], alts := [], laidByText := true, laidKinds := [.data, .pinned], laidTests := true, laidLooks := .later }
def LexerJoinedUptoCardSaid : Prop := Claim7.holds Tryd.pinned (.plain (OpenSpec.upto lexerJoinedSpec)) lexerJoinedUptoCard

/-- THE SECOND FORM's CARD OF 'swarflaw21.LexerComment'. -/
def lexerCommentUptoCard : Claim7 := { stood := { row := lexerCommentUptoRow, standIns := [], harness := (true, "3231340cd5b75c13ea4f9ad9116a0f7f0dca0cc5b1e9ad81cdaea547ef61ed80"), looks := false }, kinds := [], alts := [], laidByText := true, laidKinds := [.data, .pinned], laidTests := true, laidLooks := .later }
def LexerCommentUptoCardSaid : Prop := Claim7.holds Tryd.pinned (.plain (OpenSpec.upto lexerCommentSpec)) lexerCommentUptoCard

/-- THE SECOND FORM's CARD OF 'swarflaw21.LexerName'. -/
def lexerNameUptoCard : Claim7 := { stood := { row := lexerNameUptoRow, standIns := [], harness := (true, "3231340cd5b75c13ea4f9ad9116a0f7f0dca0cc5b1e9ad81cdaea547ef61ed80"), looks := false }, kinds := [], alts := [], laidByText := true, laidKinds := [.data, .pinned], laidTests := true, laidLooks := .later }
def LexerNameUptoCardSaid : Prop := Claim7.holds Tryd.pinned (.plain (OpenSpec.upto lexerNameSpec)) lexerNameUptoCard
end Rows
end Go.Proofs.YtpdjgamdnjfmkaaDoor
