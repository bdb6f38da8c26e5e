import Derived.Test.YthljcnchaopncaaGreatDoorZx
import Derived.Test.YthljcnchaopncaaGreatDoorMLToolEqual
namespace Go.Proofs.YthljcnchaopncaaGreatDoor
open Go.RowKit
set_option linter.unusedVariables false
set_option linter.unusedSimpArgs false
theorem toolEqual_plain (a b : List ApiTool) (k : Int) (ha : inList inApiTool a) (hb : inList inApiTool b) (h2 : inInt .i64 k) : l27_ToolEqual a b k = some true := by
 unfold l27_ToolEqual
 rw [awake27,bindO_s,if_pos rfl]
 rcases few_cases a with hf | ⟨hf,hl⟩
 ·rw [hf]; rfl
 ·rw [hf,bindO_s,if_pos rfl]
  rcases few_cases b with hg | ⟨hg,hm⟩
  ·rw [hg]; rfl
  ·rw [hg]
   have hc : ∀ l : List ApiTool,l.length ≤ 205 → slices_Clone_api_Tool_api_Tool l = some l := fun l hl=>by unfold slices_Clone_api_Tool_api_Tool; rw [okLen_of (by omega)]; rfl
   rw [hc a hl,hc b hm]
   simp only [bindO_s,Bool.not_true,Bool.false_eq_true,if_false]
   rw [to_Equal_eq a b (by omega),bindO_s,r27_Equal_eq a b (by omega),bindO_s,if_pos (by simp),to_Equal_eq a a (by omega),bindO_s,if_pos (by simp),to_KindName_eq,bindO_s,r27_KindName_eq,bindO_s,bindO_s]
   simp
end Go.Proofs.YthljcnchaopncaaGreatDoor
