import Derived.Test.YtphbhdoljnokkaaGreatDoorRows
import Derived.Test.YtphbhdoljnokkaaGreatDoorChecked
import Derived.ProofKit
import Derived.LaidMore
import Derived.OpenShut
import Derived.Stop.Joined
import Derived.SevenTiedAt
namespace Go.Proofs.YtphbhdoljnokkaaGreatDoor
open Go.ChangeShapes Go.WideShapes Go.ChangeAt Go.RowKit
theorem jg5:false=Rows.topDisplacedRow.goesBy Tryz.pinned.checked.prog:=by kernel_rfl
end Go.Proofs.YtphbhdoljnokkaaGreatDoor
