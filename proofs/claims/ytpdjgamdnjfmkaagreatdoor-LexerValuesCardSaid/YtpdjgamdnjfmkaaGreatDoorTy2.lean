/-
  To, Tp, Tq in one text.
-/
import Derived.Test.YtpdjgamdnjfmkaaGreatDoorTx
import Derived.Test.YtpdjgamdnjfmkaaGreatDoorMK
namespace Go.Proofs.YtpdjgamdnjfmkaaGreatDoor
open Go.RowKit
set_option linter.unusedVariables false
set_option linter.unusedSimpArgs false
def hd0 (s : List UInt8) : UInt8 := s.head?.getD 0
end Go.Proofs.YtpdjgamdnjfmkaaGreatDoor
namespace Go.Proofs.YtpdjgamdnjfmkaaGreatDoor
open Go.RowKit
set_option linter.unusedVariables false
set_option linter.unusedSimpArgs false
theorem awake21 : l21_awake = some true := by kernel_rfl
end Go.Proofs.YtpdjgamdnjfmkaaGreatDoor
namespace Go.Proofs.YtpdjgamdnjfmkaaGreatDoor
open Go.RowKit
set_option linter.unusedVariables false
set_option linter.unusedSimpArgs false
end Go.Proofs.YtpdjgamdnjfmkaaGreatDoor
