/-
  MW, ME in one text.
-/
import Derived.Test.YtgojngpeaknbnabGreatDoorMB
import Derived.Test.YtgojngpeaknbnabGreatDoorMH
namespace Go.Proofs.YtgojngpeaknbnabGreatDoor
end Go.Proofs.YtgojngpeaknbnabGreatDoor
