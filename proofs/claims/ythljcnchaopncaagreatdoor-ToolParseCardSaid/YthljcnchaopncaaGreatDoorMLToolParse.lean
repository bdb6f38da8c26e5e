import Derived.Test.YthljcnchaopncaaGreatDoorGx
import Derived.Test.YthljcnchaopncaaGreatDoorTy
import Derived.Test.YthljcnchaopncaaGreatDoorGo
import Derived.Test.YthljcnchaopncaaGreatDoorMI
import Derived.Test.YthljcnchaopncaaGreatDoorMQ
import Derived.Test.YthljcnchaopncaaGreatDoorMB
import Derived.Test.YthljcnchaopncaaGreatDoorMT
import Derived.Test.YthljcnchaopncaaGreatDoorMX
import Derived.Test.YthljcnchaopncaaGreatDoorMK
namespace Go.Proofs.YthljcnchaopncaaGreatDoor
open Go.RowKit
open Nat renaming reduceAdd → nA,reduceSub → nS,reduceMul → nM,reduceEqDiff → nE,reduceLeDiff → nL,reduceLT → nT,reduceBEq → nB
open Int renaming reduceLT → iT,reduceToNat → iN,reduceEq → iE
set_option linter.unusedVariables false
set_option linter.unusedSimpArgs false
set_option maxRecDepth 100000
set_option maxHeartbeats 8000000
theorem EMLToolParse : type_of% (@SE) := @SE
theorem FMLToolParse : type_of% (@SF) := @SF
def l27_ToolParse (a0 : (List UInt8)) : Option Bool := bindO (bindO (l27_awake ) fun (y1 : Bool)=>if y1 = true then some (decide ((a0.length : Int) > 20000)) else some true) fun (v1 : Bool)=>if v1 = true then bindO (l27_awake ) fun (y2 : Bool)=>some y2 else bindO (to_Parse a0) fun (y3 : (List ApiTool) × Int × Int)=>bindO (r27_Parse a0) fun (y4 : (List ApiTool) × Int × Int)=>bindO (if (y3.2.2 != y4.2.2) = true then some true else if (y3.2.1 != y4.2.1) = true then some true else bindO (r27_Equal y3.1 y4.1) fun (y5 : Bool)=>some (!y5)) fun (v2 : Bool)=>if v2 = true then some false else if (y3.2.2 != 0) = true then some ((y3.1.length : Int) == 0) else bindO (to_Format y3.1) fun (y6 : (List UInt8) × Int)=>some ((y6.2 == 0) && (y6.1 == a0))
theorem l27_ToolParse_spec {a0 : (List UInt8)} {y : Bool} (h : l27_ToolParse a0 = some y) : Spec gP 4 [.d (.str a0)] (.d (.bool y)) := by
 refine spec_mir Tryz.func4 rfl (by kernel_rfl) (by kernel_rfl) (fun y : Bool=>.d (.bool y)) ?_ h
 unfold l27_ToolParse
 simp only [List.replicate,List.length,nS,nA,Tryz.ntmps4,SV]
 refine .sR fun e h=>?_
 simp only [seval,EMLToolParse]
 refine mU e (.seqK (.seqK (Mir.joinO (fun v1 : Bool=>([.d (.str a0),U,U,U,U,U,U,U,U,U,U,U,U,U,U,U,U,.d (.bool v1)] ++ us 44)) (fun v1=>⟨[],[]⟩) (fun _=>rfl) ?_ ?_))) h
 refine .bind fun y1 hy1=>.ite (fun hb2=>?_) (fun hb2=>?_)
 refine .region fun e h=>?_
 simp only [seval,EMLToolParse,hb2]
 refine SpecS.by (l27_awake_spec hy1) (rfl) ?_
 simp only [seval,EMLToolParse,und_9,hb2]
 cases h
 simp only [seval,FMLToolParse,hb2]
 refine .region fun e h=>?_
 simp only [seval,EMLToolParse,hb2]
 refine SpecS.by (l27_awake_spec hy1) (rfl) ?_
 simp only [seval,EMLToolParse,hb2]
 cases h
 simp only [seval,FMLToolParse,hb2]
 intro v1
 refine Mir.toK (.cond rfl (fun hb5=>?_) (fun hb5=>?_))
 refine .seqK (.bind fun y2 hy6=>.region fun e h=>?_)
 simp only [seval,EMLToolParse]
 refine SpecS.by (l27_awake_spec hy6) (rfl) ?_
 simp only [seval,EMLToolParse]
 refine mU e (.ret fun e h=>?_) h
 cases h
 simp only [seval,FMLToolParse,Tryz.results4]
 refine .skip (Mir.toK (.seqK (.bind fun y3 hy7=>.region fun e h=>?_)))
 simp only [seval,EMLToolParse]
 refine SpecS.by (to_Parse_spec hy7) (by simp only [seval,FMLToolParse]) ?_
 simp only [seval,EMLToolParse]
 refine mU e (.seqK (.bind fun y4 hy8=>.region fun e h=>?_)) h
 simp only [seval,EMLToolParse]
 refine SpecS.by (r27_Parse_spec hy8) (by simp only [seval,FMLToolParse]) ?_
 simp only [seval,EMLToolParse]
 refine mU e (.seqK (.seqK (Mir.joinO (fun v2 : Bool=>([.d (.str a0),U,U,.d (.list (List.map encApiTool y3.1)),U,.d (.int .i64 y3.2.2),U,U,U,U,U,U,U,U,U,U,U,U,U,U,U,U,U,U,U,U,U,U,U,U,U,U,U,U,U,U,U,U,U,U,U,U,U,U,.d (.bool v2)] ++ us 17)) (fun v2=>⟨[],[]⟩) (fun _=>rfl) ?_ ?_))) h
 refine .ite (fun hb9=>?_) (fun hb9=>?_)
 refine .region fun e h=>?_
 simp only [seval,EMLToolParse,hb9]
 cases h
 simp only [seval,FMLToolParse,hb9]
 refine .ite (fun hb10=>?_) (fun hb10=>?_)
 refine .region fun e h=>?_
 simp only [seval,EMLToolParse,hb9,hb10]
 cases h
 simp only [seval,FMLToolParse,hb9,hb10]
 refine .bind fun y5 hy11=>.region fun e h=>?_
 simp only [seval,EMLToolParse,hb9,hb10]
 refine SpecS.by (r27_Equal_spec hy11) (by simp only [seval,FMLToolParse,hb9,hb10]) ?_
 simp only [seval,EMLToolParse,hb9,hb10]
 cases h
 simp only [seval,FMLToolParse,hb9,hb10]
 intro v2
 refine Mir.toK (.cond rfl (fun hb13=>?_) (fun hb13=>?_))
 refine .sR fun e h=>?_
 simp only [seval,EMLToolParse]
 refine mU e (.ret fun e h=>?_) h
 cases h
 simp only [seval,FMLToolParse,Tryz.results4]
 refine .skip (Mir.toK (.seqK (.sR fun e h=>?_)))
 simp only [seval,EMLToolParse]
 refine mU e (.cond rfl (fun hb15=>?_) (fun hb15=>?_)) h
 refine .sR fun e h=>?_
 simp only [seval,EMLToolParse,und_28]
 refine mU e (.ret fun e h=>?_) h
 cases h
 simp only [seval,FMLToolParse,Tryz.results4]
 refine .skip (Mir.toK (.seqK (.bind fun y6 hy16=>.region fun e h=>?_)))
 simp only [seval,EMLToolParse]
 refine SpecS.by (to_Format_spec hy16) (by simp only [seval,FMLToolParse]) ?_
 simp only [seval,EMLToolParse]
 refine mU e (.seqK (.joinV ([U,U,.d (.bool ((y6.2 == 0) && (y6.1 == a0)))] ++ us 59) ⟨[],[]⟩ rfl ?_ ?_)) h
 refine SWs.region ?_
 rcases Bool.eq_false_or_eq_true (y6.2 == 0) with hb17 | hb17
 simp only [seval,EMLToolParse,SL,PB,hb17]
 simp only [seval,EMLToolParse,SL,PB,hb17]
 refine Mir.toK (.ret fun e h=>?_)
 cases h
 simp only [seval,FMLToolParse,Tryz.results4]
theorem opn_9 : Opn Tryz.prog 9 eStr inStr := Opn.str Tryz.underlying9
end Go.Proofs.YthljcnchaopncaaGreatDoor
