/-
  MW, ME in one text.
-/
import Derived.Test.YtgojngpeaknbnaaGreatDoorMB
import Derived.Test.YtgojngpeaknbnaaGreatDoorMH
namespace Go.Proofs.YtgojngpeaknbnaaGreatDoor
end Go.Proofs.YtgojngpeaknbnaaGreatDoor
