import Derived.Test.YtebiokhmkaddaaaGreatDoorGx
import Derived.Test.YtebiokhmkaddaaaGreatDoorTy
import Derived.Test.YtebiokhmkaddaaaGreatDoorMB
import Derived.Test.YtebiokhmkaddaaaGreatDoorMV
namespace Go.Proofs.YtebiokhmkaddaaaGreatDoor
open Go.RowKit
open Nat renaming reduceAdd → nA,reduceSub → nS,reduceMul → nM,reduceEqDiff → nE,reduceLeDiff → nL,reduceLT → nT,reduceBEq → nB
open Int renaming reduceLT → iT,reduceToNat → iN,reduceEq → iE
set_option linter.unusedVariables false
set_option linter.unusedSimpArgs false
set_option maxRecDepth 100000
set_option maxHeartbeats 8000000
end Go.Proofs.YtebiokhmkaddaaaGreatDoor
