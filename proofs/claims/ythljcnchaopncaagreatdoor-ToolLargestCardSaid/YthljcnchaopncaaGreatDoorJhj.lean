/-
  Jg, Ji, Jj in one text.
-/
import Derived.Test.YthljcnchaopncaaGreatDoorJhf
namespace Go.Proofs.YthljcnchaopncaaGreatDoor
open Go.RowKit
set_option linter.unusedVariables false
set_option linter.unusedSimpArgs false
end Go.Proofs.YthljcnchaopncaaGreatDoor
namespace Go.Proofs.YthljcnchaopncaaGreatDoor
open Go.RowKit
set_option linter.unusedVariables false
set_option linter.unusedSimpArgs false
def d3 (r : Nat) : UInt8 × UInt8 × UInt8 := (UInt8.ofNat (48 + r / 100),UInt8.ofNat (48 + r / 10 % 10),UInt8.ofNat (48 + r % 10))
end Go.Proofs.YthljcnchaopncaaGreatDoor
namespace Go.Proofs.YthljcnchaopncaaGreatDoor
open Go.RowKit
end Go.Proofs.YthljcnchaopncaaGreatDoor
