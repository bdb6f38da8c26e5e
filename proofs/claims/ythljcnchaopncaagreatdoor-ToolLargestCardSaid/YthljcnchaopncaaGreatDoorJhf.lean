/-
  Jf, Jh in one text.
-/
import Derived.Test.YthljcnchaopncaaGreatDoorJy
import Derived.Test.YthljcnchaopncaaGreatDoorMX
namespace Go.Proofs.YthljcnchaopncaaGreatDoor
open Go.RowKit
set_option linter.unusedVariables false
set_option linter.unusedSimpArgs false
def dg (n : Nat) : UInt8 := UInt8.ofNat (48 + n % 10)
theorem d10 (n : Nat) : runeS (IntKind.i32.wrap (IntKind.u32.wrap (48 + (Int.tmod (n : Int) 10)))) = [dg n] := by
 have key : ∀ r,r < 10 → runeS (IntKind.i32.wrap (IntKind.u32.wrap (48 + ((r : Nat) : Int)))) = [UInt8.ofNat (48 + r)] := of_decide_eq_true (by kernel_rfl)
 have := key (n % 10) (Nat.mod_lt _ (by omega))
 rw [tmd (by omega)]
 exact this
end Go.Proofs.YthljcnchaopncaaGreatDoor
namespace Go.Proofs.YthljcnchaopncaaGreatDoor
open Go.RowKit
set_option linter.unusedVariables false
set_option linter.unusedSimpArgs false
end Go.Proofs.YthljcnchaopncaaGreatDoor
