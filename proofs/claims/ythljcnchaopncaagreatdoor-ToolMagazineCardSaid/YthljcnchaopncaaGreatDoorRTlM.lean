import Derived.Test.YthljcnchaopncaaGreatDoorZy
import Derived.Test.YthljcnchaopncaaGreatDoorMLToolMagazine
namespace Go.Proofs.YthljcnchaopncaaGreatDoor
open Go.RowKit
set_option linter.unusedVariables false
set_option linter.unusedSimpArgs false
theorem toolMagazine_plain (l : List ApiTool) (h : inList inApiTool l) : l27_ToolMagazine l = some true := by
 unfold l27_ToolMagazine
 rw [awake27,bindO_s,if_pos rfl]
 rcases few_cases l with hf | ⟨hf,hl⟩
 ·rw [hf]; rfl
 ·rw [hf]
  have hc : slices_Clone_api_Tool_api_Tool l = some l := by unfold slices_Clone_api_Tool_api_Tool; rw [okLen_of (by omega)]; rfl
  rw [hc]
  simp only [bindO_s,Bool.not_true,Bool.false_eq_true,if_false]
  rw [to_Format_eq l (by omega),bindO_s,r27_Format_eq l (by omega),bindO_s,to_Magazine_eq l (by omega),bindO_s,r27_Magazine_eq l (by omega),bindO_s]
  simp
end Go.Proofs.YthljcnchaopncaaGreatDoor
