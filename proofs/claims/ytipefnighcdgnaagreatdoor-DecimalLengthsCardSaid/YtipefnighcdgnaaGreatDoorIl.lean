import Derived.Test.YtipefnighcdgnaaGreatDoorIk
import Derived.Test.YtipefnighcdgnaaGreatDoorMB
import Derived.Test.YtipefnighcdgnaaGreatDoorGo
namespace Go.Proofs.YtipefnighcdgnaaGreatDoor
open Go.RowKit
set_option linter.unusedVariables false
set_option linter.unusedSimpArgs false
theorem awake06 : l06_awake = some true := by kernel_rfl
theorem BQ_frac {n d : Int} (h1 : -9223372036854775808 ≤ n) (h2 : n ≤ 9223372036854775807) (h3 : -9223372036854775808 ≤ d) (h4 : d ≤ 9223372036854775807) (h0 : d ≠ 0) : BQ 3 (Rat.divInt n d) := divInt_BQ (Bd.i64 h1 h2) (Bd.i64 h3 h4) h0
end Go.Proofs.YtipefnighcdgnaaGreatDoor
