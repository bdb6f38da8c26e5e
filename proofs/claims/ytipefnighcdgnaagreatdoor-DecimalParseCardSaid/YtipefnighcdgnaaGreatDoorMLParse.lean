import Derived.Test.YtipefnighcdgnaaGreatDoorGx
import Derived.Test.YtipefnighcdgnaaGreatDoorTy
import Derived.Test.YtipefnighcdgnaaGreatDoorGo
import Derived.Test.YtipefnighcdgnaaGreatDoorMI
import Derived.Test.YtipefnighcdgnaaGreatDoorMQ
import Derived.Test.YtipefnighcdgnaaGreatDoorMB
import Derived.Test.YtipefnighcdgnaaGreatDoorMT
namespace Go.Proofs.YtipefnighcdgnaaGreatDoor
open Go.RowKit
open Nat renaming reduceAdd → nA, reduceSub → nS, reduceMul → nM, reduceEqDiff → nE, reduceLeDiff → nL, reduceLT → nT, reduceBEq → nB
open Int renaming reduceLT → iT, reduceToNat → iN, reduceEq → iE
set_option linter.unusedVariables false
set_option linter.unusedSimpArgs false
set_option maxRecDepth 100000
set_option maxHeartbeats 8000000
theorem EMLParse : type_of% (@SE) := @SE
theorem FMLParse : type_of% (@SF) := @SF
def l06_DecimalParse (a0 : (List UInt8)) : Option Bool := bindO (bindO (l06_awake ) fun (y1 : Bool) => if y1 = true then some (decide ((a0.length : Int) > 200)) else some true) fun (v1 : Bool) => if v1 = true then bindO (l06_awake ) fun (y2 : Bool) => some y2 else bindO (dc_Parse a0) fun (y3 : ApiRat × Int) => bindO (r06_Parse a0) fun (y4 : ApiRat × Int) => bindO (if (y3.2 == y4.2) = true then if (y3.2 == 0) = true then bindO (r02_Same y3.1 y4.1) fun (y5 : Bool) => if y5 = true then some true else if (y3.2 != 0) = true then bindO (r02_Zero y3.1) fun (y6 : Bool) => some y6 else some false else if (y3.2 != 0) = true then bindO (r02_Zero y3.1) fun (y7 : Bool) => some y7 else some false else some false) fun (v2 : Bool) => some v2
theorem l06_DecimalParse_spec {a0 : (List UInt8)} {y : Bool} (h : l06_DecimalParse a0 = some y) : Spec gP 5 [.d (.str a0)] (.d (.bool y)) := by
 refine spec_mir Tryz.func5 rfl (by kernel_rfl) (by kernel_rfl) (fun y : Bool => .d (.bool y)) ?_ h
 unfold l06_DecimalParse
 simp only [List.replicate, List.length, nS, nA, Tryz.ntmps5, SV]
 refine .sR fun e h=>?_
 simp only [seval,EMLParse]
 refine mU e (.seqK (.seqK (Mir.joinO (fun v1 : Bool=>([.d (.str a0),U,U,U,U,U,U,U,U,U,U,U,U,.d (.bool v1)] ++ us 31)) (fun v1=>⟨[],[]⟩) (fun _=>rfl) ?_ ?_))) h
 refine .bind fun y1 hy1=>.ite (fun hb2=>?_) (fun hb2=>?_)
 refine .region fun e h=>?_
 simp only [seval,EMLParse,hb2]
 refine SpecS.by (l06_awake_spec hy1) (rfl) ?_
 simp only [seval,EMLParse,und_9,hb2]
 cases h
 simp only [seval,FMLParse,hb2]
 refine .region fun e h=>?_
 simp only [seval,EMLParse,hb2]
 refine SpecS.by (l06_awake_spec hy1) (rfl) ?_
 simp only [seval,EMLParse,hb2]
 cases h
 simp only [seval,FMLParse,hb2]
 intro v1
 refine Mir.toK (.cond rfl (fun hb5=>?_) (fun hb5=>?_))
 refine .seqK (.bind fun y2 hy6=>.region fun e h=>?_)
 simp only [seval,EMLParse]
 refine SpecS.by (l06_awake_spec hy6) (rfl) ?_
 simp only [seval,EMLParse]
 refine mU e (.ret fun e h=>?_) h
 cases h
 simp only [seval,FMLParse,Tryz.results5]
 refine .skip (Mir.toK (.seqK (.bind fun y3 hy7=>.region fun e h=>?_)))
 simp only [seval,EMLParse]
 refine SpecS.by (dc_Parse_spec hy7) (by simp only [seval,FMLParse]) ?_
 simp only [seval,EMLParse,zero_31,sz_31]
 refine mU e (.seqK (.bind fun y4 hy8=>.region fun e h=>?_)) h
 simp only [seval,EMLParse]
 refine SpecS.by (r06_Parse_spec hy8) (by simp only [seval,FMLParse]) ?_
 simp only [seval,EMLParse,zero_31,sz_31]
 refine mU e (.seqK (Mir.joinO (fun v2 : Bool=>([U,U,.d (.bool v2)] ++ us 42)) (fun v2=>⟨[[.d (.bool y3.1.Num.Neg),.d (.list (List.map (eInt .u32) y3.1.Num.Limbs)),.d (.bool y3.1.Den.Neg),.d (.list (List.map (eInt .u32) y3.1.Den.Limbs))],[.d (.bool y4.1.Num.Neg),.d (.list (List.map (eInt .u32) y4.1.Num.Limbs)),.d (.bool y4.1.Den.Neg),.d (.list (List.map (eInt .u32) y4.1.Den.Limbs))]],[]⟩) (fun _=>rfl) ?_ ?_)) h
 refine .ite (fun hb9=>?_) (fun hb9=>?_)
 refine .ite (fun hb10=>?_) (fun hb10=>?_)
 refine .bind fun y5 hy11=>.ite (fun hb12=>?_) (fun hb12=>?_)
 refine .region fun e h=>?_
 simp only [seval,EMLParse,ag_31,sz_31,hb9,hb10,hb12]
 refine SpecS.by (r02_Same_spec hy11) (by simp only [seval,FMLParse,hb9,hb10,hb12]) ?_
 simp only [seval,EMLParse,hb9,hb10,hb12]
 cases h
 simp only [seval,FMLParse,hb9,hb10,hb12]
 refine .ite (fun hb13=>?_) (fun hb13=>?_)
 refine .bind fun y6 hy14=>.region fun e h=>?_
 simp only [seval,EMLParse,ag_31,sz_31,hb9,hb10,hb12,hb13]
 refine SpecS.by (r02_Same_spec hy11) (by simp only [seval,FMLParse,hb9,hb10,hb12,hb13]) ?_
 simp only [seval,EMLParse,ag_31,sz_31,hb9,hb10,hb12,hb13]
 refine SpecS.by (r02_Zero_spec hy14) (by simp only [seval,FMLParse,hb9,hb10,hb12,hb13]) ?_
 simp only [seval,EMLParse,hb9,hb10,hb12,hb13]
 cases h
 simp only [seval,FMLParse,hb9,hb10,hb12,hb13]
 refine .region fun e h=>?_
 simp only [seval,EMLParse,ag_31,sz_31,hb9,hb10,hb12,hb13]
 refine SpecS.by (r02_Same_spec hy11) (by simp only [seval,FMLParse,hb9,hb10,hb12,hb13]) ?_
 simp only [seval,EMLParse,hb9,hb10,hb12,hb13]
 cases h
 simp only [seval,FMLParse,hb9,hb10,hb12,hb13]
 refine .ite (fun hb15=>?_) (fun hb15=>?_)
 refine .bind fun y7 hy16=>.region fun e h=>?_
 simp only [seval,EMLParse,ag_31,sz_31,hb9,hb10,hb15]
 refine SpecS.by (r02_Zero_spec hy16) (by simp only [seval,FMLParse,hb9,hb10,hb15]) ?_
 simp only [seval,EMLParse,hb9,hb10,hb15]
 cases h
 simp only [seval,FMLParse,hb9,hb10,hb15]
 refine .region fun e h=>?_
 simp only [seval,EMLParse,hb9,hb10,hb15]
 cases h
 simp only [seval,FMLParse,hb9,hb10,hb15]
 refine .region fun e h=>?_
 simp only [seval,EMLParse,hb9]
 cases h
 simp only [seval,FMLParse,hb9]
 intro v2
 refine Mir.toK (.ret fun e h=>?_)
 cases h
 simp only [seval,FMLParse,Tryz.results5]
theorem opn_9 : Opn Tryz.prog 9 eStr inStr := Opn.str Tryz.underlying9
end Go.Proofs.YtipefnighcdgnaaGreatDoor
