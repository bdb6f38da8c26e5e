import Derived.Test.YtopjpenbieojmaaGreatDoorGx
import Derived.Test.YtopjpenbieojmaaGreatDoorSz
import Derived.Test.YtopjpenbieojmaaGreatDoorSy
namespace Go.Proofs.YtopjpenbieojmaaGreatDoor
open Go.RowKit
set_option linter.unusedVariables false
set_option linter.unusedSimpArgs false
section
variable {P : Program} {g : Pg P} {fr : Fr} {s : Sg}
end
end Go.Proofs.YtopjpenbieojmaaGreatDoor
