import Derived.Test.YthljcnchaopncaaGreatDoorZx
import Derived.Test.YthljcnchaopncaaGreatDoorMLToolFind
namespace Go.Proofs.YthljcnchaopncaaGreatDoor
open Go.RowKit
set_option linter.unusedVariables false
set_option linter.unusedSimpArgs false
theorem toolFind_plain (l : List ApiTool) (n : Int) (h : inList inApiTool l) (h2 : inInt .i64 n) : l27_ToolFind l n = some true := by
 unfold l27_ToolFind
 rw [awake27,bindO_s,if_pos rfl]
 rcases few_cases l with hf | ⟨hf,hl⟩
 ·rw [hf]; rfl
 ·rw [hf]
  have hc : slices_Clone_api_Tool_api_Tool l = some l := by unfold slices_Clone_api_Tool_api_Tool; rw [okLen_of (by omega)]; rfl
  rw [hc]
  simp only [bindO_s,Bool.not_true,Bool.false_eq_true,if_false]
  rw [to_Find_eq l n (by omega),bindO_s,r27_Find_eq l n (by omega),bindO_s]
  simp
end Go.Proofs.YthljcnchaopncaaGreatDoor
