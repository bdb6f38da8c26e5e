import Derived.Test.YthljcnchaopncaaGreatDoorZx
import Derived.Test.YthljcnchaopncaaGreatDoorMLToolLargest
namespace Go.Proofs.YthljcnchaopncaaGreatDoor
open Go.RowKit
set_option linter.unusedVariables false
set_option linter.unusedSimpArgs false
theorem toolLargest_plain (l : List ApiTool) (k : Int) (z : Arr2I64) (h : inList inApiTool l) (h2 : inInt .i64 k) (h3 : inArr2I64 z) : l27_ToolLargest l k z = some true := by
  unfold l27_ToolLargest
  rw [awake27,bindO_s,if_pos rfl]
  rcases few_cases l with hf | ⟨hf,hl⟩
  · rw [hf]; rfl
  · rw [hf]
    have hc : slices_Clone_api_Tool_api_Tool l = some l := by unfold slices_Clone_api_Tool_api_Tool; rw [okLen_of (by omega)]; rfl
    rw [hc]
    simp only [bindO_s,Bool.not_true,Bool.false_eq_true,if_false]
    obtain ⟨y,hy,hp⟩ := to_Largest_ok l k z.e0 z.e1 (by omega)
    rw [r27_Largest_eq,hy,bindO_s,bindO_s]
    simp only [bne_self_eq_false,Bool.or_self,Bool.false_eq_true,if_false]
    rw [okIdx_of (by omega),guardO_t]
    have key : Tot (rangeX (fun (i1 : Nat) (e1 : ApiTool) (v2 : Unit) =>
            bindO (if (e1.Kind == k) = true then
                  if (decide (e1.Radius ≤ z.e0)) = true then
                    if (decide (e1.Flute ≥ z.e1)) = true then
                      if (y.2 != 0) = true then
                        some true
                      else
                        bindO (gt l y.1) fun (e2 : ApiTool) =>
                        some (decide (e1.Radius > e2.Radius))
                    else
                      some false
                  else
                    some false
                else
                  some false) fun (v3 : Bool) =>
            if v3 = true then
              some (.ret (.ret false))
            else
              some (.go ())) (fun (v2 : Unit)=>some (Ex.go (ε := Bool) ())) l 0 ()) (fun e=>e = .go ()) := by
      refine Tot.range (fun _ _=>True) _ trivial (fun i x v hx _=>?_) (fun v _=>.ok rfl)
      have hm : x ∈ l := List.mem_of_getElem? hx
      refine TotX.bind (E := fun b=>b = false) ?_ (fun b hb=>by subst hb; exact .go trivial)
      refine Tot.ite (fun q1=>?_) (fun q1=>.ok rfl)
      refine Tot.ite (fun q2=>?_) (fun q2=>.ok rfl)
      refine Tot.ite (fun q3=>?_) (fun q3=>.ok rfl)
      have hft : fitsT k z.e0 z.e1 x := ⟨by simpa using q1,by simpa using q2,by simpa using q3⟩
      rcases hp with ⟨rfl,hn⟩ | ⟨m,t0,rfl,hm0,hmax⟩
      · exact absurd hft (hn x hm)
      · rw [if_neg (by simp),gt_k hm0,bindO_s]
        refine .ok ?_
        have := hmax x hm hft
        rw [decide_eq_false (by omega)]
    obtain ⟨e,he,rfl⟩ := key
    rw [he]
    rfl
end Go.Proofs.YthljcnchaopncaaGreatDoor
