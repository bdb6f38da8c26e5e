import Derived.Test.YtipefnighcdgnaaGreatDoorGx
import Derived.Test.YtipefnighcdgnaaGreatDoorTy
import Derived.Test.YtipefnighcdgnaaGreatDoorLbe
import Derived.Test.YtipefnighcdgnaaGreatDoorMI
import Derived.Test.YtipefnighcdgnaaGreatDoorMQ
import Derived.Test.YtipefnighcdgnaaGreatDoorMB
import Derived.Test.YtipefnighcdgnaaGreatDoorMT
namespace Go.Proofs.YtipefnighcdgnaaGreatDoor
open Go.RowKit
open Nat renaming reduceAdd → nA, reduceSub → nS, reduceMul → nM, reduceEqDiff → nE, reduceLeDiff → nL, reduceLT → nT, reduceBEq → nB
open Int renaming reduceLT → iT, reduceToNat → iN, reduceEq → iE
set_option linter.unusedVariables false
set_option linter.unusedSimpArgs false
set_option maxRecDepth 100000
set_option maxHeartbeats 8000000
theorem EMX : type_of% (@SE) := @SE
theorem FMX : type_of% (@SF) := @SF
def dc_FromMillimetres (a0 : (List UInt8)) : Option (Int × Int) := bindO (dc_digits a0) fun (y1 : (List UInt8) × Int × Bool) => if (!y1.2.2 || (decide (y1.2.1 > 3))) = true then some (0, 2) else bindO (strings_Repeat [48] (IntKind.i64.wrap (3 - y1.2.1))) fun (y2 : (List UInt8)) => guardO (okStr y1.1 y2) ( bindO (strconv_ParseIntE (y1.1 ++ y2) 10 64) fun (y3 : Int × Bool) => if (!y3.2 || ((decide (y3.1 > 10000000)) || (decide (y3.1 < (-10000000))))) = true then some (0, 11) else some (y3.1, 0))
theorem dc_FromMillimetres_spec {a0 : (List UInt8)} {y : Int × Int} (h : dc_FromMillimetres a0 = some y) : Spec gP 42 [.d (.str a0)] (.tuple [.d (.int .i64 y.1), .d (.int .i64 y.2)]) := by
 refine spec_mir Tryz.func42 rfl (by kernel_rfl) (by kernel_rfl) (fun y : Int × Int => .tuple [.d (.int .i64 y.1), .d (.int .i64 y.2)]) ?_ h
 unfold dc_FromMillimetres
 simp only [List.replicate, List.length, nS, nA, Tryz.ntmps42, SV]
 refine .sR fun e h=>?_
 simp only [seval,EMX]
 refine mU e (.seqK (.bind fun y1 hy1=>.region fun e h=>?_)) h
 simp only [seval,EMX]
 refine SpecS.by (dc_digits_spec hy1) (by simp only [seval,FMX]) ?_
 simp only [seval,EMX]
 refine mU e (.seqK (.seqK (.joinV ([U,U,U,U,.d (.str y1.1),.d (.int .i64 y1.2.1),U,U,U,U,U,U,U,U,U,U,U,U,U,U,.d (.bool (!y1.2.2 || (decide (y1.2.1 > 3))))] ++ us 20) ⟨[],[]⟩ rfl ?_ ?_))) h
 refine SWs.region ?_
 rcases Bool.eq_false_or_eq_true (y1.2.2) with hb2 | hb2
 simp only [seval,EMX,SL,PB,hb2]
 simp only [seval,EMX,SL,PB,hb2]
 refine Mir.toK (.cond rfl (fun hb4=>?_) (fun hb4=>?_))
 refine .sR fun e h=>?_
 simp only [seval,EMX]
 refine mU e (.ret fun e h=>?_) h
 cases h
 simp only [seval,FMX,Tryz.results42]
 refine .skip (Mir.toK (.seqK (.bind fun y2 hy5=>.guard fun q6=>?_)))
 replace q6 := okStr_ok q6
 refine .bind fun y3 hy7=>.region fun e h=>?_
 simp only [seval,EMX]
 refine SpecS.by (strings_Repeat_spec hy5) (by simp only [seval,FMX]) ?_
 simp only [seval,EMX,q6]
 refine SpecE.by (strconv_ParseIntE_spec hy7) rfl (fun t1 p1=>?_)
 simp only [seval,EMX]
 refine mU e (.seqK (.seqK (.joinV [U,U,U,U,U,U,U,.d (.int .i64 y3.1),U,U,U,U,U,U,U,U,U,U,U,U,U,U,U,U,U,U,U,U,U,U,U,U,U,U,U,U,U,U,U,.d (.bool (!y3.2 || ((decide (y3.1 > 10000000)) || (decide (y3.1 < (-10000000)))))),U] ⟨[],[]⟩ rfl ?_ ?_))) h
 refine SWs.region ?_
 rcases Bool.eq_false_or_eq_true (y3.2) with hb8 | hb8
 rcases Bool.eq_false_or_eq_true (decide (y3.1 > 10000000)) with hb9 | hb9
 simp only [seval,EMX,SL,PB,bx_ne,(nr (by kernel_rfl) : ifaceT Tryz.prog 99 = true),hb8,hb9]
 simp only [seval,EMX,SL,PB,bx_ne,(nr (by kernel_rfl) : ifaceT Tryz.prog 99 = true),hb8,hb9]
 simp only [seval,EMX,SL,PB,bx_ne,(nr (by kernel_rfl) : ifaceT Tryz.prog 99 = true),hb8]
 refine Mir.toK (.cond rfl (fun hb11=>?_) (fun hb11=>?_))
 refine .sR fun e h=>?_
 simp only [seval,EMX]
 refine mU e (.ret fun e h=>?_) h
 cases h
 simp only [seval,FMX,Tryz.results42]
 refine .skip (Mir.toK (.sR fun e h=>?_))
 simp only [seval,EMX]
 refine mU e (.ret fun e h=>?_) h
 cases h
 simp only [seval,FMX,Tryz.results42]
end Go.Proofs.YtipefnighcdgnaaGreatDoor
