import Derived.Test.YtipefnighcdgnaaGreatDoorGx
import Derived.Test.YtipefnighcdgnaaGreatDoorTy
import Derived.Test.YtipefnighcdgnaaGreatDoorGo
import Derived.Test.YtipefnighcdgnaaGreatDoorMI
import Derived.Test.YtipefnighcdgnaaGreatDoorMQ
import Derived.Test.YtipefnighcdgnaaGreatDoorMB
import Derived.Test.YtipefnighcdgnaaGreatDoorMT
import Derived.Test.YtipefnighcdgnaaGreatDoorMX
namespace Go.Proofs.YtipefnighcdgnaaGreatDoor
open Go.RowKit
open Nat renaming reduceAdd → nA, reduceSub → nS, reduceMul → nM, reduceEqDiff → nE, reduceLeDiff → nL, reduceLT → nT, reduceBEq → nB
open Int renaming reduceLT → iT, reduceToNat → iN, reduceEq → iE
set_option linter.unusedVariables false
set_option linter.unusedSimpArgs false
set_option maxRecDepth 100000
set_option maxHeartbeats 8000000
theorem EMLLengths : type_of% (@SE) := @SE
theorem FMLLengths : type_of% (@SF) := @SF
def l06_DecimalLengths (a0 : Int) : Option Bool := bindO (l06_awake ) fun (y1 : Bool) => if (!y1) = true then some false else bindO (dc_Millimetres a0) fun (y2 : (List UInt8)) => bindO (dc_FromMillimetres y2) fun (y3 : Int × Int) => bindO (r06_Millimetres a0) fun (y4 : (List UInt8)) => if (!(y2 == y4)) = true then some false else if ((decide (a0 < (-10000000))) || (decide (a0 > 10000000))) = true then some ((y3.2 == 11) && (y3.1 == 0)) else some ((y3.2 == 0) && (y3.1 == a0))
theorem l06_DecimalLengths_spec {a0 : Int} {y : Bool} (h : l06_DecimalLengths a0 = some y) : Spec gP 8 [.d (.int .i64 a0)] (.d (.bool y)) := by
 refine spec_mir Tryz.func8 rfl (by kernel_rfl) (by kernel_rfl) (fun y : Bool => .d (.bool y)) ?_ h
 unfold l06_DecimalLengths
 simp only [List.replicate, List.length, nS, nA, Tryz.ntmps8, SV]
 refine .sR fun e h=>?_
 simp only [seval,EMLLengths]
 refine mU e (.seqK (.seqK (.bind fun y1 hy1=>.region fun e h=>?_))) h
 simp only [seval,EMLLengths]
 refine SpecS.by (l06_awake_spec hy1) (rfl) ?_
 simp only [seval,EMLLengths]
 refine mU e (.cond rfl (fun hb3=>?_) (fun hb3=>?_)) h
 refine .sR fun e h=>?_
 simp only [seval,EMLLengths]
 refine mU e (.ret fun e h=>?_) h
 cases h
 simp only [seval,FMLLengths,Tryz.results8]
 refine .skip (Mir.toK (.seqK (.bind fun y2 hy4=>.region fun e h=>?_)))
 simp only [seval,EMLLengths]
 refine SpecS.by (dc_Millimetres_spec hy4) (by simp only [seval,FMLLengths]) ?_
 simp only [seval,EMLLengths]
 refine mU e (.seqK (.bind fun y3 hy5=>.region fun e h=>?_)) h
 simp only [seval,EMLLengths]
 refine SpecS.by (dc_FromMillimetres_spec hy5) (by simp only [seval,FMLLengths]) ?_
 simp only [seval,EMLLengths]
 refine mU e (.seqK (.seqK (.bind fun y4 hy6=>.region fun e h=>?_))) h
 simp only [seval,EMLLengths]
 refine SpecS.by (r06_Millimetres_spec hy6) (by simp only [seval,FMLLengths]) ?_
 simp only [seval,EMLLengths]
 refine mU e (.cond rfl (fun hb8=>?_) (fun hb8=>?_)) h
 refine .sR fun e h=>?_
 simp only [seval,EMLLengths]
 refine mU e (.ret fun e h=>?_) h
 cases h
 simp only [seval,FMLLengths,Tryz.results8]
 refine .skip (Mir.toK (.seqK (.seqK (.joinV ([.d (.int .i64 a0),U,U,U,.d (.int .i64 y3.1),.d (.int .i64 y3.2),U,U,U,U,U,U,U,U,U,U,U,U,U,U,U,U,U,U,.d (.bool ((decide (a0 < (-10000000))) || (decide (a0 > 10000000))))] ++ us 13) ⟨[],[]⟩ rfl ?_ ?_))))
 refine SWs.region ?_
 rcases Bool.eq_false_or_eq_true (decide (a0 < (-10000000))) with hb9 | hb9
 simp only [seval,EMLLengths,SL,PB,hb9]
 simp only [seval,EMLLengths,SL,PB,hb9]
 refine Mir.toK (.cond rfl (fun hb12=>?_) (fun hb12=>?_))
 refine .seqK (.joinV ([U,U,.d (.bool ((y3.2 == 11) && (y3.1 == 0)))] ++ us 35) ⟨[],[]⟩ rfl ?_ ?_)
 refine SWs.region ?_
 rcases Bool.eq_false_or_eq_true (y3.2 == 11) with hb13 | hb13
 simp only [seval,EMLLengths,SL,PB,hb13]
 simp only [seval,EMLLengths,SL,PB,hb13]
 refine Mir.toK (.ret fun e h=>?_)
 cases h
 simp only [seval,FMLLengths,Tryz.results8]
 refine .skip (Mir.toK (.seqK (.joinV ([U,U,.d (.bool ((y3.2 == 0) && (y3.1 == a0)))] ++ us 35) ⟨[],[]⟩ rfl ?_ ?_)))
 refine SWs.region ?_
 rcases Bool.eq_false_or_eq_true (y3.2 == 0) with hb14 | hb14
 simp only [seval,EMLLengths,SL,PB,hb14]
 simp only [seval,EMLLengths,SL,PB,hb14]
 refine Mir.toK (.ret fun e h=>?_)
 cases h
 simp only [seval,FMLLengths,Tryz.results8]
theorem opn_2 : Opn Tryz.prog 2 (eInt .i64) (inInt .i64) := Opn.int Tryz.underlying2
end Go.Proofs.YtipefnighcdgnaaGreatDoor
