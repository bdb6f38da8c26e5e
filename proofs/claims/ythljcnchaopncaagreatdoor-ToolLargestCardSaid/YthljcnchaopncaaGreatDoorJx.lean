/-
  Ja, Jb, Jc in one text.
-/
import Derived.Test.YthljcnchaopncaaGreatDoorLbe
import Derived.Test.YthljcnchaopncaaGreatDoorIkl
import Derived.Test.YthljcnchaopncaaGreatDoorMT
import Derived.Lib.IndexLaws
namespace Go.Proofs.YthljcnchaopncaaGreatDoor
open Go.RowKit
set_option linter.unusedVariables false
set_option linter.unusedSimpArgs false
def dv (c : UInt8) : Nat := c.toNat - 48
def numA (a : Nat) (l : List UInt8) : Nat := l.foldl (fun a c=>10 * a + dv c) a
def num (l : List UInt8) : Nat := numA 0 l
end Go.Proofs.YthljcnchaopncaaGreatDoor
namespace Go.Proofs.YthljcnchaopncaaGreatDoor
open Go.RowKit
set_option linter.unusedVariables false
set_option linter.unusedSimpArgs false
end Go.Proofs.YthljcnchaopncaaGreatDoor
namespace Go.Proofs.YthljcnchaopncaaGreatDoor
open Go.RowKit
set_option linter.unusedVariables false
set_option linter.unusedSimpArgs false
end Go.Proofs.YthljcnchaopncaaGreatDoor
