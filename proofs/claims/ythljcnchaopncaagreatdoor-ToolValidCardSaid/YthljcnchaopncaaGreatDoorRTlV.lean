import Derived.Test.YthljcnchaopncaaGreatDoorZx
import Derived.Test.YthljcnchaopncaaGreatDoorMLToolValid
namespace Go.Proofs.YthljcnchaopncaaGreatDoor
open Go.RowKit
set_option linter.unusedVariables false
set_option linter.unusedSimpArgs false
theorem toolValid_plain (t : ApiTool) (h : inApiTool t) : l27_ToolValid t = some true := by
 unfold l27_ToolValid
 rw [awake27,bindO_s,if_pos rfl,to_Valid_eq,bindO_s,r27_Valid_eq,bindO_s,bindO_s]
 simp
end Go.Proofs.YthljcnchaopncaaGreatDoor
