import Derived.Test.YtjgngikiglhleaaGreatDoorGx
import Derived.Test.YtjgngikiglhleaaGreatDoorTy
import Derived.Test.YtjgngikiglhleaaGreatDoorMB
import Derived.Test.YtjgngikiglhleaaGreatDoorMV
namespace Go.Proofs.YtjgngikiglhleaaGreatDoor
open Go.RowKit
open Nat renaming reduceAdd → nA,reduceSub → nS,reduceMul → nM,reduceEqDiff → nE,reduceLeDiff → nL,reduceLT → nT,reduceBEq → nB
open Int renaming reduceLT → iT,reduceToNat → iN,reduceEq → iE
set_option linter.unusedVariables false
set_option linter.unusedSimpArgs false
set_option maxRecDepth 100000
set_option maxHeartbeats 8000000
end Go.Proofs.YtjgngikiglhleaaGreatDoor
