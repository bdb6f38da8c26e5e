import Derived.Test.YtopjpenbieojmaaDoorGx
import Derived.Test.YtopjpenbieojmaaDoorSz
import Derived.Test.YtopjpenbieojmaaDoorSy
namespace Go.Proofs.YtopjpenbieojmaaDoor
open Go.RowKit
set_option linter.unusedVariables false
set_option linter.unusedSimpArgs false
section
variable {P : Program} {g : Pg P} {fr : Fr} {s : Sg}
end
end Go.Proofs.YtopjpenbieojmaaDoor
