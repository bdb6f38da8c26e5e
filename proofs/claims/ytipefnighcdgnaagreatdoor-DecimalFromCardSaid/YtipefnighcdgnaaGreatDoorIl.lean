import Derived.Test.YtipefnighcdgnaaGreatDoorIk
import Derived.Test.YtipefnighcdgnaaGreatDoorMB
import Derived.Test.YtipefnighcdgnaaGreatDoorGo
namespace Go.Proofs.YtipefnighcdgnaaGreatDoor
open Go.RowKit
set_option linter.unusedVariables false
set_option linter.unusedSimpArgs false
theorem awake06 : l06_awake = some true := by kernel_rfl
end Go.Proofs.YtipefnighcdgnaaGreatDoor
