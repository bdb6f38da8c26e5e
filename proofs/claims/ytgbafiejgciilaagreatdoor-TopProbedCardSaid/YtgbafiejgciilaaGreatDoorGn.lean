import Derived.Test.YtgbafiejgciilaaGreatDoorG1
namespace Go.Proofs.YtgbafiejgciilaaGreatDoor
theorem gt_okM{α β:Type}{f:α→β}{l:List α}{i:Int}{e:α}(h:gt l i=some e):((i<0)=False)∧l[i.toNat]? = some e∧(l.map f)[i.toNat]? = some (f e):=⟨gt_nn h,gt_at h,by rw[List.getElem?_map,gt_at h];rfl⟩
end Go.Proofs.YtgbafiejgciilaaGreatDoor
