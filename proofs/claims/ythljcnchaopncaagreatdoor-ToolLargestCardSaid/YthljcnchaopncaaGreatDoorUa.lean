import Derived.Test.YthljcnchaopncaaGreatDoorPz
import Derived.Lib.Split
import Derived.Lib.SplitLaws
import Derived.Lib.IndexBytes
namespace Go.Proofs.YthljcnchaopncaaGreatDoor
open Go.RowKit
end Go.Proofs.YthljcnchaopncaaGreatDoor
