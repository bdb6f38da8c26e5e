import Derived.Test.YtjamgiobipdfhaaGreatDoorGx
import Derived.Test.YtjamgiobipdfhaaGreatDoorSz
import Derived.Test.YtjamgiobipdfhaaGreatDoorSy
namespace Go.Proofs.YtjamgiobipdfhaaGreatDoor
open Go.RowKit
set_option linter.unusedVariables false
set_option linter.unusedSimpArgs false
section
variable {P : Program} {g : Pg P} {fr : Fr} {s : Sg}
end
end Go.Proofs.YtjamgiobipdfhaaGreatDoor
