import Derived.Test.YtgojngpeaknbnaaGreatDoorG1
namespace Go.Proofs.YtgojngpeaknbnaaGreatDoor
theorem gt_lit{α β:Type}{l:List α}{n:Nat}{e:α}(f:α→β)(L:List β)(b:β)(h:l[n]? = some e)(hL:l.map f=L)(hb:f e=b):L[n]? = some b:=by
 rw[←hL,List.getElem?_map,h,←hb];rfl
end Go.Proofs.YtgojngpeaknbnaaGreatDoor
