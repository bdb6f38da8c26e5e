import Derived.Test.YthljcnchaopncaaGreatDoorGx
import Derived.Test.YthljcnchaopncaaGreatDoorTy
import Derived.Test.YthljcnchaopncaaGreatDoorMI
namespace Go.Proofs.YthljcnchaopncaaGreatDoor
open Go.RowKit
open Nat renaming reduceAdd → nA,reduceSub → nS,reduceMul → nM,reduceEqDiff → nE,reduceLeDiff → nL,reduceLT → nT,reduceBEq → nB
open Int renaming reduceLT → iT,reduceToNat → iN,reduceEq → iE
set_option linter.unusedVariables false
set_option linter.unusedSimpArgs false
set_option maxRecDepth 100000
set_option maxHeartbeats 8000000
structure ApiRat where
 Num : ApiInt
 Den : ApiInt
 deriving DecidableEq
def encApiRat (x : ApiRat) : List D := [.bool x.Num.Neg,.list (List.map (eInt .u32) x.Num.Limbs),.bool x.Den.Neg,.list (List.map (eInt .u32) x.Den.Limbs)]
theorem ENMQ : type_of% (@encApiRat.eq_1) := @encApiRat.eq_1
theorem EMQ : type_of% (And.intro @SE <| @ENMQ) := And.intro @SE <| @ENMQ
theorem FMQ : type_of% (And.intro @SF <| @ENMQ) := And.intro @SF <| @ENMQ
def r02_unit  : Option ApiInt := bindO (r01_FromInt64 1) fun (y1 : ApiInt)=>some y1
theorem r02_unit_spec  {y : ApiInt} (h : r02_unit = some y) : Spec gP 134 [] (.agg [.d (.bool y.Neg),.d (.list (List.map (eInt .u32) y.Limbs))]) := by
 refine spec_mir Tryz.func134 rfl (by kernel_rfl) (by kernel_rfl) (fun y : ApiInt=>.agg [.d (.bool y.Neg),.d (.list (List.map (eInt .u32) y.Limbs))]) ?_ h
 unfold r02_unit
 simp only [List.replicate,List.length,nS,nA,Tryz.ntmps134,SV]
 refine .sR fun e h=>?_
 simp only [seval,EMQ,zero_92]
 refine mU e (.seqK (.bind fun y1 hy1=>.region fun e h=>?_)) h
 simp only [seval,EMQ]
 refine SpecS.by (r01_FromInt64_spec hy1) (by simp only [seval,FMQ]) ?_
 simp only [seval,EMQ,sz_92]
 refine mU e (.ret fun e h=>?_) h
 cases h
 simp only [seval,FMQ,Tryz.results134,ag_92,sz_92]
def r02_FromInt (a0 : ApiInt) : Option ApiRat := bindO (r02_unit ) fun (y1 : ApiInt)=>some (ApiRat.mk a0 y1)
theorem r02_FromInt_spec {a0 : ApiInt} {y : ApiRat} (h : r02_FromInt a0 = some y) : Spec gP 104 [.agg [.d (.bool a0.Neg),.d (.list (List.map (eInt .u32) a0.Limbs))]] (.agg [.d (.bool y.Num.Neg),.d (.list (List.map (eInt .u32) y.Num.Limbs)),.d (.bool y.Den.Neg),.d (.list (List.map (eInt .u32) y.Den.Limbs))]) := by
 refine spec_mir Tryz.func104 rfl (by kernel_rfl) (by kernel_rfl) (fun y : ApiRat=>.agg [.d (.bool y.Num.Neg),.d (.list (List.map (eInt .u32) y.Num.Limbs)),.d (.bool y.Den.Neg),.d (.list (List.map (eInt .u32) y.Den.Limbs))]) ?_ h
 unfold r02_FromInt
 simp only [List.replicate,List.length,nS,nA,Tryz.ntmps104,SV]
 refine .sR fun e h=>?_
 simp only [seval,EMQ,zero_94,eInt]
 refine mU e (.seqK (.bind fun y1 hy1=>.regionD [] (by kernel_rfl) fun e h=>?_)) h
 simp only [seval,EMQ,SB,ag_92,sz_92,eInt]
 refine Spec.by (r02_unit_spec hy1) (rfl) ?_
 simp only [seval,EMQ,SB,zero_94,pl_94,sz_94,eInt]
 refine mU e (.ret fun e h=>?_) h
 cases h
 simp only [seval,FMQ,eInt,Tryz.results104,ag_94,sz_94]
def r02_Of (a0 : ApiInt) (a1 : ApiInt) : Option ApiRat := bindO (r01_Sign a1) fun (y1 : Int)=>bindO (if (decide (y1 < 0)) = true then bindO (r01_Neg a0) fun (y2 : ApiInt)=>bindO (r01_Neg a1) fun (y3 : ApiInt)=>some (y2,y3) else some (a0,a1)) fun (v1 : ApiInt × ApiInt)=>bindO (r01_GCD v1.1 v1.2) fun (y4 : ApiInt)=>bindO (r01_DivMod v1.1 y4) fun (y5 : ApiInt × ApiInt × Int)=>bindO (r01_DivMod v1.2 y4) fun (y6 : ApiInt × ApiInt × Int)=>some (ApiRat.mk y5.1 y6.1)
theorem r02_Of_spec {a0 : ApiInt} {a1 : ApiInt} {y : ApiRat} (h : r02_Of a0 a1 = some y) : Spec gP 107 [.agg [.d (.bool a0.Neg),.d (.list (List.map (eInt .u32) a0.Limbs))],.agg [.d (.bool a1.Neg),.d (.list (List.map (eInt .u32) a1.Limbs))]] (.agg [.d (.bool y.Num.Neg),.d (.list (List.map (eInt .u32) y.Num.Limbs)),.d (.bool y.Den.Neg),.d (.list (List.map (eInt .u32) y.Den.Limbs))]) := by
 refine spec_mir Tryz.func107 rfl (by kernel_rfl) (by kernel_rfl) (fun y : ApiRat=>.agg [.d (.bool y.Num.Neg),.d (.list (List.map (eInt .u32) y.Num.Limbs)),.d (.bool y.Den.Neg),.d (.list (List.map (eInt .u32) y.Den.Limbs))]) ?_ h
 unfold r02_Of
 simp only [List.replicate,List.length,nS,nA,Tryz.ntmps107,SV]
 refine .sR fun e h=>?_
 simp only [seval,EMQ,zero_94,eInt]
 refine mU e (.seqK (.seqK (.bind fun y1 hy1=>.region fun e h=>?_))) h
 simp only [seval,EMQ,ag_92,sz_92,eInt]
 refine SpecS.by (r01_Sign_spec hy1) (by simp only [seval,FMQ,eInt]) ?_
 simp only [seval,EMQ,eInt]
 refine mU e (Mir.joinO (fun v1 : ApiInt × ApiInt=>([U,U,.ptr 0 0,.ptr 1 0,.ptr 2 0] ++ us 34)) (fun v1=>⟨[[.d (.bool v1.1.Neg),.d (.list (List.map (eInt .u32) v1.1.Limbs))],[.d (.bool v1.2.Neg),.d (.list (List.map (eInt .u32) v1.2.Limbs))],[.d (.bool false),.nil,.d (.bool false),.nil]],[]⟩) (fun _=>rfl) ?_ ?_) h
 refine .cond rfl (fun hb5=>?_) (fun hb5=>?_)
 refine .bind fun y2 hy6=>.bind fun y3 hy7=>.regionD [] (by kernel_rfl) fun e h=>?_
 simp only [seval,EMQ,SB,ag_92,sz_92,eInt]
 refine Spec.by (r01_Neg_spec hy6) (by simp only [seval,FMQ,eInt]) ?_
 simp only [seval,EMQ,SB,ag_92,sz_92,eInt]
 refine Spec.by (r01_Neg_spec hy7) (by simp only [seval,FMQ,eInt]) ?_
 simp only [seval,EMQ,SB,sz_92,eInt]
 cases h
 simp only [seval,FMQ,eInt,Tryz.results107,ag_94,sz_94]
 refine .skip fun e h=>?_
 cases h
 simp only [seval,FMQ,eInt,Tryz.results107,ag_94,sz_94]
 intro v1
 refine Mir.toK (.seqK (.bind fun y4 hy8=>.region fun e h=>?_))
 simp only [seval,EMQ,ag_92,sz_92,eInt]
 refine SpecS.by (r01_GCD_spec hy8) (by simp only [seval,FMQ,eInt]) ?_
 simp only [seval,EMQ,zero_92,sz_92,eInt]
 refine mU e (.seqK (.bind fun y5 hy9=>.region fun e h=>?_)) h
 simp only [seval,EMQ,ag_92,sz_92,eInt]
 refine SpecS.by (r01_DivMod_spec hy9) (by simp only [seval,FMQ,eInt]) ?_
 simp only [seval,EMQ,zero_92,sz_92,eInt]
 refine mU e (.seqK (.bind fun y6 hy10=>.region fun e h=>?_)) h
 simp only [seval,EMQ,ag_92,sz_92,eInt]
 refine SpecS.by (r01_DivMod_spec hy10) (by simp only [seval,FMQ,eInt]) ?_
 simp only [seval,EMQ,zero_92,sz_92,eInt]
 refine mU e (.sR fun e h=>?_) h
 simp only [seval,EMQ,ag_92,sz_92,zero_94,pl_94,sz_94,eInt]
 refine mU e (.ret fun e h=>?_) h
 cases h
 simp only [seval,FMQ,eInt,Tryz.results107,ag_94,sz_94]
def r02_Frac (a0 : Int) (a1 : Int) : Option ApiRat := bindO (if (a1 == 0) = true then some (0,1) else some (a0,a1)) fun (v1 : Int × Int)=>bindO (r01_FromInt64 v1.1) fun (y1 : ApiInt)=>bindO (r01_FromInt64 v1.2) fun (y2 : ApiInt)=>bindO (r02_Of y1 y2) fun (y3 : ApiRat)=>some y3
theorem r02_Frac_spec {a0 : Int} {a1 : Int} {y : ApiRat} (h : r02_Frac a0 a1 = some y) : Spec gP 84 [.d (.int .i64 a0),.d (.int .i64 a1)] (.agg [.d (.bool y.Num.Neg),.d (.list (List.map (eInt .u32) y.Num.Limbs)),.d (.bool y.Den.Neg),.d (.list (List.map (eInt .u32) y.Den.Limbs))]) := by
 refine spec_mir Tryz.func84 rfl (by kernel_rfl) (by kernel_rfl) (fun y : ApiRat=>.agg [.d (.bool y.Num.Neg),.d (.list (List.map (eInt .u32) y.Num.Limbs)),.d (.bool y.Den.Neg),.d (.list (List.map (eInt .u32) y.Den.Limbs))]) ?_ h
 unfold r02_Frac
 simp only [List.replicate,List.length,nS,nA,Tryz.ntmps84,SV]
 refine .sR fun e h=>?_
 simp only [seval,EMQ,zero_94]
 refine mU e (.seqK (.sR fun e h=>?_)) h
 simp only [seval,EMQ]
 refine mU e (Mir.joinO (fun v1 : Int × Int=>([.d (.int .i64 v1.1),.d (.int .i64 v1.2),U,U,.ptr 0 0] ++ us 7)) (fun v1=>⟨[[.d (.bool false),.nil,.d (.bool false),.nil]],[]⟩) (fun _=>rfl) ?_ ?_) h
 refine .cond rfl (fun hb2=>?_) (fun hb2=>?_)
 refine .region fun e h=>?_
 simp only [seval,EMQ]
 cases h
 simp only [seval,FMQ,Tryz.results84,ag_94,sz_94]
 refine .skip fun e h=>?_
 cases h
 simp only [seval,FMQ,Tryz.results84,ag_94,sz_94]
 intro v1
 refine Mir.toK (.seqK (.bind fun y1 hy3=>.bind fun y2 hy4=>.bind fun y3 hy5=>.region fun e h=>?_))
 simp only [seval,EMQ]
 refine SpecS.by (r01_FromInt64_spec hy3) (by simp only [seval,FMQ]) ?_
 simp only [seval,EMQ]
 refine SpecS.by (r01_FromInt64_spec hy4) (by simp only [seval,FMQ]) ?_
 simp only [seval,EMQ]
 refine SpecS.by (r02_Of_spec hy5) (by simp only [seval,FMQ]) ?_
 simp only [seval,EMQ,sz_94]
 refine mU e (.ret fun e h=>?_) h
 cases h
 simp only [seval,FMQ,Tryz.results84,ag_94,sz_94]
def r02_FromInt64 (a0 : Int) : Option ApiRat := bindO (r01_FromInt64 a0) fun (y1 : ApiInt)=>bindO (r02_unit ) fun (y2 : ApiInt)=>some (ApiRat.mk y1 y2)
theorem r02_FromInt64_spec {a0 : Int} {y : ApiRat} (h : r02_FromInt64 a0 = some y) : Spec gP 109 [.d (.int .i64 a0)] (.agg [.d (.bool y.Num.Neg),.d (.list (List.map (eInt .u32) y.Num.Limbs)),.d (.bool y.Den.Neg),.d (.list (List.map (eInt .u32) y.Den.Limbs))]) := by
 refine spec_mir Tryz.func109 rfl (by kernel_rfl) (by kernel_rfl) (fun y : ApiRat=>.agg [.d (.bool y.Num.Neg),.d (.list (List.map (eInt .u32) y.Num.Limbs)),.d (.bool y.Den.Neg),.d (.list (List.map (eInt .u32) y.Den.Limbs))]) ?_ h
 unfold r02_FromInt64
 simp only [List.replicate,List.length,nS,nA,Tryz.ntmps109,SV]
 refine .sR fun e h=>?_
 simp only [seval,EMQ,zero_94]
 refine mU e (.seqK (.bind fun y1 hy1=>.bind fun y2 hy2=>.region fun e h=>?_)) h
 simp only [seval,EMQ]
 refine SpecS.by (r01_FromInt64_spec hy1) (by simp only [seval,FMQ]) ?_
 simp only [seval,EMQ]
 refine SpecS.by (r02_unit_spec hy2) (rfl) ?_
 simp only [seval,EMQ,zero_94,pl_94,sz_94]
 refine mU e (.ret fun e h=>?_) h
 cases h
 simp only [seval,FMQ,Tryz.results109,ag_94,sz_94]
def r02_Mul (a0 : ApiRat) (a1 : ApiRat) : Option ApiRat := bindO (r01_Mul a0.Num a1.Num) fun (y1 : ApiInt)=>bindO (r01_Mul a0.Den a1.Den) fun (y2 : ApiInt)=>bindO (r02_Of y1 y2) fun (y3 : ApiRat)=>some y3
theorem r02_Mul_spec {a0 : ApiRat} {a1 : ApiRat} {y : ApiRat} (h : r02_Mul a0 a1 = some y) : Spec gP 77 [.agg [.d (.bool a0.Num.Neg),.d (.list (List.map (eInt .u32) a0.Num.Limbs)),.d (.bool a0.Den.Neg),.d (.list (List.map (eInt .u32) a0.Den.Limbs))],.agg [.d (.bool a1.Num.Neg),.d (.list (List.map (eInt .u32) a1.Num.Limbs)),.d (.bool a1.Den.Neg),.d (.list (List.map (eInt .u32) a1.Den.Limbs))]] (.agg [.d (.bool y.Num.Neg),.d (.list (List.map (eInt .u32) y.Num.Limbs)),.d (.bool y.Den.Neg),.d (.list (List.map (eInt .u32) y.Den.Limbs))]) := by
 refine spec_mir Tryz.func77 rfl (by kernel_rfl) (by kernel_rfl) (fun y : ApiRat=>.agg [.d (.bool y.Num.Neg),.d (.list (List.map (eInt .u32) y.Num.Limbs)),.d (.bool y.Den.Neg),.d (.list (List.map (eInt .u32) y.Den.Limbs))]) ?_ h
 unfold r02_Mul
 simp only [List.replicate,List.length,nS,nA,Tryz.ntmps77,SV]
 refine .sR fun e h=>?_
 simp only [seval,EMQ,zero_94,eInt]
 refine mU e (.seqK (.bind fun y1 hy1=>.bind fun y2 hy2=>.bind fun y3 hy3=>.regionD [] (by kernel_rfl) fun e h=>?_)) h
 simp only [seval,EMQ,SB,fld_94_0,sz_92,ag_92,eInt]
 refine Spec.by (r01_Mul_spec hy1) (by simp only [seval,FMQ,eInt]) ?_
 simp only [seval,EMQ,SB,fld_94_1,sz_92,ag_92,eInt]
 refine Spec.by (r01_Mul_spec hy2) (by simp only [seval,FMQ,eInt]) ?_
 simp only [seval,EMQ,SB,eInt]
 refine Spec.by (r02_Of_spec hy3) (by simp only [seval,FMQ,eInt]) ?_
 simp only [seval,EMQ,SB,sz_94,eInt]
 refine mU e (.ret fun e h=>?_) h
 cases h
 simp only [seval,FMQ,eInt,Tryz.results77,ag_94,sz_94]
def r06_Power (a0 : Int) : Option ApiRat := bindO (r02_FromInt64 1) fun (y1 : ApiRat)=>bindO (loopX (fun (v1 : Int × ApiRat)=>if (decide (v1.1 < a0)) = true then bindO (r02_FromInt64 10) fun (y2 : ApiRat)=>bindO (r02_Mul v1.2 y2) fun (y3 : ApiRat)=>some (.go (IntKind.i64.wrap (v1.1 + 1),y3)) else some (.ret v1.2)) fuel (0,ApiRat.mk y1.Num y1.Den)) fun (v2 : ApiRat)=>some v2
theorem r06_Power_spec {a0 : Int} {y : ApiRat} (h : r06_Power a0 = some y) : Spec gP 78 [.d (.int .i64 a0)] (.agg [.d (.bool y.Num.Neg),.d (.list (List.map (eInt .u32) y.Num.Limbs)),.d (.bool y.Den.Neg),.d (.list (List.map (eInt .u32) y.Den.Limbs))]) := by
 refine spec_mir Tryz.func78 rfl (by kernel_rfl) (by kernel_rfl) (fun y : ApiRat=>.agg [.d (.bool y.Num.Neg),.d (.list (List.map (eInt .u32) y.Num.Limbs)),.d (.bool y.Den.Neg),.d (.list (List.map (eInt .u32) y.Den.Limbs))]) ?_ h
 unfold r06_Power
 simp only [List.replicate,List.length,nS,nA,Tryz.ntmps78,SV]
 refine .sR fun e h=>?_
 simp only [seval,EMQ,zero_94]
 refine mU e (.seqK (.bind fun y1 hy1=>.region fun e h=>?_)) h
 simp only [seval,EMQ]
 refine SpecS.by (r02_FromInt64_spec hy1) (by simp only [seval,FMQ]) ?_
 simp only [seval,EMQ,zero_94,sz_94]
 refine mU e (.seqK (.sR fun e h=>?_)) h
 simp only [seval,EMQ]
 refine mU e (Mir.joinO (fun v2 : ApiRat=>([U,U,.ptr 0 0,.ptr 1 0] ++ us 11)) (fun v2=>⟨[[.d (.bool false),.nil,.d (.bool false),.nil],[.d (.bool v2.Num.Neg),.d (.list (List.map (eInt .u32) v2.Num.Limbs)),.d (.bool v2.Den.Neg),.d (.list (List.map (eInt .u32) v2.Den.Limbs))]],[]⟩) (fun _=>rfl) ?_ ?_) h
 refine .block (Mir.loop (fun v1 : Int × ApiRat=>([.d (.int .i64 a0),U,.ptr 0 0,.ptr 1 0,.d (.int .i64 v1.1)] ++ us 10)) (fun v1=>⟨[[.d (.bool false),.nil,.d (.bool false),.nil],[.d (.bool v1.2.Num.Neg),.d (.list (List.map (eInt .u32) v1.2.Num.Limbs)),.d (.bool v1.2.Den.Neg),.d (.list (List.map (eInt .u32) v1.2.Den.Limbs))]],[]⟩) (fun _=>rfl) (by simp only [seval,FMQ]) (by simp only [seval,FMQ]) fun v1=>.seqK (.sR fun e h=>?_))
 simp only [seval,EMQ]
 refine mU e (.cond rfl (fun hb33=>?_) (fun hb33=>?_)) h
 refine .skip (Mir.toK (.seqK (.block (.bind fun y2 hy36=>.bind fun y3 hy37=>.regionD [] (by kernel_rfl) fun e h=>?_))))
 simp only [seval,EMQ,SB,ag_94,sz_94]
 refine Spec.by (r02_FromInt64_spec hy36) (by simp only [seval,FMQ]) ?_
 simp only [seval,EMQ,SB]
 refine Spec.by (r02_Mul_spec hy37) (by simp only [seval,FMQ]) ?_
 simp only [seval,EMQ,SB,sz_94]
 refine mU e (.region fun e h=>?_) h
 simp only [seval,EMQ]
 cases h
 simp only [seval,FMQ,Tryz.results78,ag_94,sz_94]
 refine .exit fun e h=>?_
 cases h
 simp only [seval,FMQ,Tryz.results78,ag_94,sz_94]
 intro v2
 refine Mir.toK (.sR fun e h=>?_)
 simp only [seval,EMQ,ag_94,sz_94]
 refine mU e (.ret fun e h=>?_) h
 cases h
 simp only [seval,FMQ,Tryz.results78,ag_94,sz_94]
def r02_Make (a0 : ApiInt) (a1 : ApiInt) : Option (ApiRat × Int) := bindO (r01_Sign a1) fun (y1 : Int)=>if (y1 == 0) = true then some (ApiRat.mk (ApiInt.mk false []) (ApiInt.mk false []),6) else bindO (r02_Of a0 a1) fun (y2 : ApiRat)=>some (y2,0)
theorem r02_Make_spec {a0 : ApiInt} {a1 : ApiInt} {y : ApiRat × Int} (h : r02_Make a0 a1 = some y) : Spec gP 157 [.agg [.d (.bool a0.Neg),.d (.list (List.map (eInt .u32) a0.Limbs))],.agg [.d (.bool a1.Neg),.d (.list (List.map (eInt .u32) a1.Limbs))]] (.tuple [.agg [.d (.bool y.1.Num.Neg),.d (.list (List.map (eInt .u32) y.1.Num.Limbs)),.d (.bool y.1.Den.Neg),.d (.list (List.map (eInt .u32) y.1.Den.Limbs))],.d (.int .i64 y.2)]) := by
 refine spec_mir Tryz.func157 rfl (by kernel_rfl) (by kernel_rfl) (fun y : ApiRat × Int=>.tuple [.agg [.d (.bool y.1.Num.Neg),.d (.list (List.map (eInt .u32) y.1.Num.Limbs)),.d (.bool y.1.Den.Neg),.d (.list (List.map (eInt .u32) y.1.Den.Limbs))],.d (.int .i64 y.2)]) ?_ h
 unfold r02_Make
 simp only [List.replicate,List.length,nS,nA,Tryz.ntmps157,SV]
 refine .sR fun e h=>?_
 simp only [seval,EMQ,zero_94,eInt]
 refine mU e (.seqK (.seqK (.bind fun y1 hy1=>.region fun e h=>?_))) h
 simp only [seval,EMQ,ag_92,sz_92,eInt]
 refine SpecS.by (r01_Sign_spec hy1) (by simp only [seval,FMQ,eInt]) ?_
 simp only [seval,EMQ,eInt]
 refine mU e (.cond rfl (fun hb3=>?_) (fun hb3=>?_)) h
 refine .sR fun e h=>?_
 simp only [seval,EMQ,zero_94,pl_94,sz_94,eInt]
 refine mU e (.ret fun e h=>?_) h
 cases h
 simp only [seval,FMQ,eInt,Tryz.results157,ag_94,sz_94]
 refine .skip (Mir.toK (.seqK (.bind fun y2 hy4=>.region fun e h=>?_)))
 simp only [seval,EMQ,ag_92,sz_92,eInt]
 refine SpecS.by (r02_Of_spec hy4) (by simp only [seval,FMQ,eInt]) ?_
 simp only [seval,EMQ,sz_94,eInt]
 refine mU e (.ret fun e h=>?_) h
 cases h
 simp only [seval,FMQ,eInt,Tryz.results157,ag_94,sz_94]
def r02_Div (a0 : ApiRat) (a1 : ApiRat) : Option (ApiRat × Int) := bindO (r01_Mul a0.Num a1.Den) fun (y1 : ApiInt)=>bindO (r01_Mul a0.Den a1.Num) fun (y2 : ApiInt)=>bindO (r02_Make y1 (ApiInt.mk y2.Neg y2.Limbs)) fun (y3 : ApiRat × Int)=>some (y3.1,y3.2)
theorem r02_Div_spec {a0 : ApiRat} {a1 : ApiRat} {y : ApiRat × Int} (h : r02_Div a0 a1 = some y) : Spec gP 133 [.agg [.d (.bool a0.Num.Neg),.d (.list (List.map (eInt .u32) a0.Num.Limbs)),.d (.bool a0.Den.Neg),.d (.list (List.map (eInt .u32) a0.Den.Limbs))],.agg [.d (.bool a1.Num.Neg),.d (.list (List.map (eInt .u32) a1.Num.Limbs)),.d (.bool a1.Den.Neg),.d (.list (List.map (eInt .u32) a1.Den.Limbs))]] (.tuple [.agg [.d (.bool y.1.Num.Neg),.d (.list (List.map (eInt .u32) y.1.Num.Limbs)),.d (.bool y.1.Den.Neg),.d (.list (List.map (eInt .u32) y.1.Den.Limbs))],.d (.int .i64 y.2)]) := by
 refine spec_mir Tryz.func133 rfl (by kernel_rfl) (by kernel_rfl) (fun y : ApiRat × Int=>.tuple [.agg [.d (.bool y.1.Num.Neg),.d (.list (List.map (eInt .u32) y.1.Num.Limbs)),.d (.bool y.1.Den.Neg),.d (.list (List.map (eInt .u32) y.1.Den.Limbs))],.d (.int .i64 y.2)]) ?_ h
 unfold r02_Div
 simp only [List.replicate,List.length,nS,nA,Tryz.ntmps133,SV]
 refine .sR fun e h=>?_
 simp only [seval,EMQ,zero_94,eInt]
 refine mU e (.seqK (.bind fun y1 hy1=>.bind fun y2 hy2=>.bind fun y3 hy3=>.regionD [] (by kernel_rfl) fun e h=>?_)) h
 simp only [seval,EMQ,SB,fld_94_0,sz_92,ag_92,fld_94_1,eInt]
 refine Spec.by (r01_Mul_spec hy1) (by simp only [seval,FMQ,eInt]) ?_
 simp only [seval,EMQ,SB,fld_94_1,sz_92,ag_92,fld_94_0,eInt]
 refine Spec.by (r01_Mul_spec hy2) (by simp only [seval,FMQ,eInt]) ?_
 simp only [seval,EMQ,SB,eInt]
 refine Spec.by (r02_Make_spec hy3) (by simp only [seval,FMQ,eInt]) ?_
 simp only [seval,EMQ,SB,sz_94,eInt]
 refine mU e (.ret fun e h=>?_) h
 cases h
 simp only [seval,FMQ,eInt,Tryz.results133,ag_94,sz_94]
def r02_Over (a0 : ApiRat) (a1 : ApiRat) : Option ApiRat := bindO (r02_Div (ApiRat.mk a0.Num a0.Den) (ApiRat.mk a1.Num a1.Den)) fun (y1 : ApiRat × Int)=>some y1.1
theorem r02_Over_spec {a0 : ApiRat} {a1 : ApiRat} {y : ApiRat} (h : r02_Over a0 a1 = some y) : Spec gP 103 [.agg [.d (.bool a0.Num.Neg),.d (.list (List.map (eInt .u32) a0.Num.Limbs)),.d (.bool a0.Den.Neg),.d (.list (List.map (eInt .u32) a0.Den.Limbs))],.agg [.d (.bool a1.Num.Neg),.d (.list (List.map (eInt .u32) a1.Num.Limbs)),.d (.bool a1.Den.Neg),.d (.list (List.map (eInt .u32) a1.Den.Limbs))]] (.agg [.d (.bool y.Num.Neg),.d (.list (List.map (eInt .u32) y.Num.Limbs)),.d (.bool y.Den.Neg),.d (.list (List.map (eInt .u32) y.Den.Limbs))]) := by
 refine spec_mir Tryz.func103 rfl (by kernel_rfl) (by kernel_rfl) (fun y : ApiRat=>.agg [.d (.bool y.Num.Neg),.d (.list (List.map (eInt .u32) y.Num.Limbs)),.d (.bool y.Den.Neg),.d (.list (List.map (eInt .u32) y.Den.Limbs))]) ?_ h
 unfold r02_Over
 simp only [List.replicate,List.length,nS,nA,Tryz.ntmps103,SV]
 refine .sR fun e h=>?_
 simp only [seval,EMQ,zero_94,eInt]
 refine mU e (.seqK (.bind fun y1 hy1=>.region fun e h=>?_)) h
 simp only [seval,EMQ,ag_94,sz_94,eInt]
 refine SpecS.by (r02_Div_spec hy1) (by simp only [seval,FMQ,eInt]) ?_
 simp only [seval,EMQ,zero_94,sz_94,eInt]
 refine mU e (.sR fun e h=>?_) h
 simp only [seval,EMQ,ag_94,sz_94,eInt]
 refine mU e (.ret fun e h=>?_) h
 cases h
 simp only [seval,FMQ,eInt,Tryz.results103,ag_94,sz_94]
def r02_Floor (a0 : ApiRat) : Option ApiInt := bindO (r01_DivMod a0.Num a0.Den) fun (y1 : ApiInt × ApiInt × Int)=>some y1.1
theorem r02_Floor_spec {a0 : ApiRat} {y : ApiInt} (h : r02_Floor a0 = some y) : Spec gP 76 [.agg [.d (.bool a0.Num.Neg),.d (.list (List.map (eInt .u32) a0.Num.Limbs)),.d (.bool a0.Den.Neg),.d (.list (List.map (eInt .u32) a0.Den.Limbs))]] (.agg [.d (.bool y.Neg),.d (.list (List.map (eInt .u32) y.Limbs))]) := by
 refine spec_mir Tryz.func76 rfl (by kernel_rfl) (by kernel_rfl) (fun y : ApiInt=>.agg [.d (.bool y.Neg),.d (.list (List.map (eInt .u32) y.Limbs))]) ?_ h
 unfold r02_Floor
 simp only [List.replicate,List.length,nS,nA,Tryz.ntmps76,SV]
 refine .sR fun e h=>?_
 simp only [seval,EMQ,zero_92,eInt]
 refine mU e (.seqK (.bind fun y1 hy1=>.region fun e h=>?_)) h
 simp only [seval,EMQ,fld_94_0,sz_92,ag_92,fld_94_1,eInt]
 refine SpecS.by (r01_DivMod_spec hy1) (by simp only [seval,FMQ,eInt]) ?_
 simp only [seval,EMQ,zero_92,sz_92,eInt]
 refine mU e (.sR fun e h=>?_) h
 simp only [seval,EMQ,ag_92,sz_92,eInt]
 refine mU e (.ret fun e h=>?_) h
 cases h
 simp only [seval,FMQ,eInt,Tryz.results76,ag_92,sz_92]
def r06_within (a0 : ApiInt) : Option (Int × Bool) := bindO (r01_Int64 a0) fun (y1 : Int × Bool)=>some (y1.1,y1.2 && ((decide (y1.1 ≥ (-10000000))) && (decide (y1.1 ≤ 10000000))))
theorem r06_within_spec {a0 : ApiInt} {y : Int × Bool} (h : r06_within a0 = some y) : Spec gP 75 [.agg [.d (.bool a0.Neg),.d (.list (List.map (eInt .u32) a0.Limbs))]] (.tuple [.d (.int .i64 y.1),.d (.bool y.2)]) := by
 refine spec_mir Tryz.func75 rfl (by kernel_rfl) (by kernel_rfl) (fun y : Int × Bool=>.tuple [.d (.int .i64 y.1),.d (.bool y.2)]) ?_ h
 unfold r06_within
 simp only [List.replicate,List.length,nS,nA,Tryz.ntmps75,SV]
 refine .sR fun e h=>?_
 simp only [seval,EMQ,eInt]
 refine mU e (.seqK (.bind fun y1 hy1=>.region fun e h=>?_)) h
 simp only [seval,EMQ,ag_92,sz_92,eInt]
 refine SpecS.by (r01_Int64_spec hy1) (by simp only [seval,FMQ,eInt]) ?_
 simp only [seval,EMQ,eInt]
 refine mU e (.seqK (.joinV ([U,U,.d (.int .i64 y1.1),.d (.bool (y1.2 && ((decide (y1.1 ≥ (-10000000))) && (decide (y1.1 ≤ 10000000)))))] ++ us 17) ⟨[[.d (.bool a0.Neg),.d (.list (List.map (eInt .u32) a0.Limbs))]],[]⟩ rfl ?_ ?_)) h
 refine SWs.region ?_
 rcases Bool.eq_false_or_eq_true (y1.2) with hb2 | hb2
 rcases Bool.eq_false_or_eq_true (decide (y1.1 ≥ (-10000000))) with hb3 | hb3
 simp only [seval,EMQ,SL,PB,hb2,hb3,eInt]
 simp only [seval,EMQ,SL,PB,hb2,hb3,eInt]
 simp only [seval,EMQ,SL,PB,hb2,eInt]
 refine Mir.toK (.ret fun e h=>?_)
 cases h
 simp only [seval,FMQ,eInt,Tryz.results75]
end Go.Proofs.YthljcnchaopncaaGreatDoor
