import Derived.Test.YthljcnchaopncaaGreatDoorZy
import Derived.Test.YthljcnchaopncaaGreatDoorMLToolText
namespace Go.Proofs.YthljcnchaopncaaGreatDoor
open Go.RowKit
set_option linter.unusedVariables false
set_option linter.unusedSimpArgs false
theorem toolText_plain (l : List ApiTool) (h : inList inApiTool l) : l27_ToolText l = some true := by
 unfold l27_ToolText
 rw [awake27,bindO_s,if_pos rfl]
 rcases few_cases l with hf | ⟨hf,hl⟩
 ·rw [hf]; rfl
 ·rw [hf,bindO_s,if_pos rfl,r27_Magazine_eq l (by omega),bindO_s,bindO_s]
  by_cases hm : magV l = 0
  ·rw [hm,if_neg (by simp)]
   have hc : slices_Clone_api_Tool_api_Tool l = some l := by unfold slices_Clone_api_Tool_api_Tool; rw [okLen_of (by omega)]; rfl
   rw [hc,bindO_s,to_Format_eq l (by omega)]
   unfold fmtR
   rw [if_pos hm,bindO_s,parse_fmt hm,bindO_s]
   dsimp only
   rw [if_pos (by simp),if_pos (by simp),if_pos (by simp),to_Equal_eq l l (by omega),bindO_s,if_pos (by simp),r27_Equal_eq l l (by omega),bindO_s,bindO_s]
   simp
  ·rw [if_pos (by simpa using hm)]; rfl
end Go.Proofs.YthljcnchaopncaaGreatDoor
