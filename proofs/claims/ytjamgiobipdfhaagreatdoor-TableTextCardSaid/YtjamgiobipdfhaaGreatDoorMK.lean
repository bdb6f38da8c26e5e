import Derived.Test.YtjamgiobipdfhaaGreatDoorMKa
namespace Go.Proofs.YtjamgiobipdfhaaGreatDoor
open Go.RowKit
open Nat renaming reduceAdd → nA,reduceSub → nS,reduceMul → nM,reduceEqDiff → nE,reduceLeDiff → nL,reduceLT → nT,reduceBEq → nB
open Int renaming reduceLT → iT,reduceToNat → iN,reduceEq → iE
set_option linter.unusedVariables false
set_option linter.unusedSimpArgs false
set_option maxRecDepth 100000
set_option maxHeartbeats 8000000
def r45_number (a0 : (List UInt8)) : Option Int := bindX (guardO (okIdx a0) ( rangeX (fun (i1 : Nat) (c1 : UInt8) (v1 : Int)=>if ((decide ((c1.toNat : Int) < 48)) || ((decide ((c1.toNat : Int) > 57)) || (decide ((i1 : Int) > 2)))) = true then some (.ret (.ret (-1))) else some (.go (IntKind.i64.wrap ((IntKind.i64.wrap (10 * v1)) + (IntKind.i64.wrap (IntKind.u8.wrap ((c1.toNat : Int) - 48))))))) (fun (v1 : Int)=>some (.go v1)) a0 0 0)) fun (v2 : Int)=>some v2
end Go.Proofs.YtjamgiobipdfhaaGreatDoor
