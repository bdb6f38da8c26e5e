import Derived.Test.YtphbhdoljnokkaaGreatDoorRows
import Derived.Test.YtphbhdoljnokkaaGreatDoorChecked
import Derived.ProofKit
import Derived.LaidMore
import Derived.OpenShut
import Derived.Stop.Joined
import Derived.SevenTiedAt
namespace Go.Proofs.YtphbhdoljnokkaaGreatDoor
open Go.ChangeShapes Go.WideShapes Go.ChangeAt Go.RowKit
theorem jf1:(laidOutB Tryz.pinned.checked.prog)=true:=by kernel_rfl
theorem jf2:(mapsRowed Tryz.pinned.checked.prog)=true:=by kernel_rfl
theorem jf9:((Rows.topDisplacedRow.inPlace==Tryz.pinned.checked.prog.inPlace 3))=true:=by kernel_rfl
theorem jf10:((Rows.topDisplacedRow.unfollowed==Tryz.pinned.checked.prog.unfollowed 3))=true:=by kernel_rfl
theorem jf11:((Rows.topDisplacedRow.recurses==Tryz.pinned.checked.prog.recurses 3))=true:=by kernel_rfl
theorem jf12:((Rows.topDisplacedRow.named==Tryz.pinned.checked.prog.varsNamed 3))=true:=by kernel_rfl
theorem jf16:((Rows.topDisplacedRow.loops==(Tryz.f3.params.toList++Rows.topDisplacedSpec.plain.varTypes Tryz.pinned.checked.prog).any (Tryz.pinned.checked.prog.loopsFrom ·)))=true:=by kernel_rfl
theorem jf22:((Rows.topDisplacedRow.plainKeys==Tryz.pinned.checked.prog.plainKeys))=true:=by kernel_rfl
theorem jf24:(Tryz.pinned.checked.prog.stopsHeard)=true:=by kernel_rfl
theorem jf25:(Tryz.pinned.checked.prog.mayEnter)=true:=by kernel_rfl
theorem jfs:joinedFacts Tryz.pinned.checked.prog 3 Tryz.f3 Rows.topDisplacedSpec Rows.topDisplacedRow=true:=by
 unfold joinedFacts
 rw[jf1,jf2,jf9,jf10,jf11,jf12,jf16,jf22,jf24,jf25]
 kernel_rfl
theorem jg3:true=Tryz.pinned.checked.prog.looks []:=by kernel_rfl
end Go.Proofs.YtphbhdoljnokkaaGreatDoor
