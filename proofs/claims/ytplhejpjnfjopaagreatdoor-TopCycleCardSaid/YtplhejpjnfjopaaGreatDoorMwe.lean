/-
  MW, ME in one text.
-/
import Derived.Test.YtplhejpjnfjopaaGreatDoorMB
import Derived.Test.YtplhejpjnfjopaaGreatDoorMH
namespace Go.Proofs.YtplhejpjnfjopaaGreatDoor
end Go.Proofs.YtplhejpjnfjopaaGreatDoor
