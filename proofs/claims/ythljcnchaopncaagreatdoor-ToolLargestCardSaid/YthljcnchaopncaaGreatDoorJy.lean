/-
  Jd, Je in one text.
-/
import Derived.Test.YthljcnchaopncaaGreatDoorJx
namespace Go.Proofs.YthljcnchaopncaaGreatDoor
open Go.RowKit
set_option linter.unusedVariables false
set_option linter.unusedSimpArgs false
end Go.Proofs.YthljcnchaopncaaGreatDoor
namespace Go.Proofs.YthljcnchaopncaaGreatDoor
open Go.RowKit
set_option linter.unusedVariables false
set_option linter.unusedSimpArgs false
theorem c46 (c : UInt8) : ((c.toNat : Int) == 46) = (c == 46) := by
 by_cases h : c = 46
 ·subst h; rfl
 ·have h2 : c.toNat ≠ 46 := fun z=>h (UInt8.toNat_inj.1 (by rw [z]; rfl))
  rw [beq_eq_false_iff_ne.2 h,beq_eq_false_iff_ne.2 (by omega)]
end Go.Proofs.YthljcnchaopncaaGreatDoor
