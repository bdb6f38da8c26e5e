import Derived.Test.YtjamgiobipdfhaaGreatDoorGx
import Derived.Test.YtjamgiobipdfhaaGreatDoorTy
import Derived.Test.YtjamgiobipdfhaaGreatDoorMI
namespace Go.Proofs.YtjamgiobipdfhaaGreatDoor
open Go.RowKit
open Nat renaming reduceAdd → nA,reduceSub → nS,reduceMul → nM,reduceEqDiff → nE,reduceLeDiff → nL,reduceLT → nT,reduceBEq → nB
open Int renaming reduceLT → iT,reduceToNat → iN,reduceEq → iE
set_option linter.unusedVariables false
set_option linter.unusedSimpArgs false
set_option maxRecDepth 100000
set_option maxHeartbeats 8000000
structure ApiRat where
 Num : ApiInt
 Den : ApiInt
 deriving DecidableEq
def encApiRat (x : ApiRat) : List D := [.bool x.Num.Neg,.list (List.map (eInt .u32) x.Num.Limbs),.bool x.Den.Neg,.list (List.map (eInt .u32) x.Den.Limbs)]
theorem ENMQ : type_of% (@encApiRat.eq_1) := @encApiRat.eq_1
theorem EMQ : type_of% (And.intro @SE <| @ENMQ) := And.intro @SE <| @ENMQ
theorem FMQ : type_of% (And.intro @SF <| @ENMQ) := And.intro @SF <| @ENMQ
def r02_unit  : Option ApiInt := bindO (r01_FromInt64 1) fun (y1 : ApiInt)=>some y1
theorem r02_unit_spec  {y : ApiInt} (h : r02_unit = some y) : Spec gP 152 [] (.agg [.d (.bool y.Neg),.d (.list (List.map (eInt .u32) y.Limbs))]) := by
 refine spec_mir Tryz.func152 rfl (by kernel_rfl) (by kernel_rfl) (fun y : ApiInt=>.agg [.d (.bool y.Neg),.d (.list (List.map (eInt .u32) y.Limbs))]) ?_ h
 unfold r02_unit
 simp only [List.replicate,List.length,nS,nA,Tryz.ntmps152,SV]
 refine .sR fun e h=>?_
 simp only [seval,EMQ,zero_133]
 refine mU e (.seqK (.bind fun y1 hy1=>.region fun e h=>?_)) h
 simp only [seval,EMQ]
 refine SpecS.by (r01_FromInt64_spec hy1) (by simp only [seval,FMQ]) ?_
 simp only [seval,EMQ,sz_133]
 refine mU e (.ret fun e h=>?_) h
 cases h
 simp only [seval,FMQ,Tryz.results152,ag_133,sz_133]
def r02_FromInt (a0 : ApiInt) : Option ApiRat := bindO (r02_unit ) fun (y1 : ApiInt)=>some (ApiRat.mk a0 y1)
def r02_Of (a0 : ApiInt) (a1 : ApiInt) : Option ApiRat := bindO (r01_Sign a1) fun (y1 : Int)=>bindO (if (decide (y1 < 0)) = true then bindO (r01_Neg a0) fun (y2 : ApiInt)=>bindO (r01_Neg a1) fun (y3 : ApiInt)=>some (y2,y3) else some (a0,a1)) fun (v1 : ApiInt × ApiInt)=>bindO (r01_GCD v1.1 v1.2) fun (y4 : ApiInt)=>bindO (r01_DivMod v1.1 y4) fun (y5 : ApiInt × ApiInt × Int)=>bindO (r01_DivMod v1.2 y4) fun (y6 : ApiInt × ApiInt × Int)=>some (ApiRat.mk y5.1 y6.1)
theorem r02_Of_spec {a0 : ApiInt} {a1 : ApiInt} {y : ApiRat} (h : r02_Of a0 a1 = some y) : Spec gP 101 [.agg [.d (.bool a0.Neg),.d (.list (List.map (eInt .u32) a0.Limbs))],.agg [.d (.bool a1.Neg),.d (.list (List.map (eInt .u32) a1.Limbs))]] (.agg [.d (.bool y.Num.Neg),.d (.list (List.map (eInt .u32) y.Num.Limbs)),.d (.bool y.Den.Neg),.d (.list (List.map (eInt .u32) y.Den.Limbs))]) := by
 refine spec_mir Tryz.func101 rfl (by kernel_rfl) (by kernel_rfl) (fun y : ApiRat=>.agg [.d (.bool y.Num.Neg),.d (.list (List.map (eInt .u32) y.Num.Limbs)),.d (.bool y.Den.Neg),.d (.list (List.map (eInt .u32) y.Den.Limbs))]) ?_ h
 unfold r02_Of
 simp only [List.replicate,List.length,nS,nA,Tryz.ntmps101,SV]
 refine .sR fun e h=>?_
 simp only [seval,EMQ,zero_135,eInt]
 refine mU e (.seqK (.seqK (.bind fun y1 hy1=>.region fun e h=>?_))) h
 simp only [seval,EMQ,ag_133,sz_133,eInt]
 refine SpecS.by (r01_Sign_spec hy1) (by simp only [seval,FMQ,eInt]) ?_
 simp only [seval,EMQ,eInt]
 refine mU e (Mir.joinO (fun v1 : ApiInt × ApiInt=>([U,U,.ptr 0 0,.ptr 1 0,.ptr 2 0] ++ us 34)) (fun v1=>⟨[[.d (.bool v1.1.Neg),.d (.list (List.map (eInt .u32) v1.1.Limbs))],[.d (.bool v1.2.Neg),.d (.list (List.map (eInt .u32) v1.2.Limbs))],[.d (.bool false),.nil,.d (.bool false),.nil]],[]⟩) (fun _=>rfl) ?_ ?_) h
 refine .cond rfl (fun hb5=>?_) (fun hb5=>?_)
 refine .bind fun y2 hy6=>.bind fun y3 hy7=>.regionD [] (by kernel_rfl) fun e h=>?_
 simp only [seval,EMQ,SB,ag_133,sz_133,eInt]
 refine Spec.by (r01_Neg_spec hy6) (by simp only [seval,FMQ,eInt]) ?_
 simp only [seval,EMQ,SB,ag_133,sz_133,eInt]
 refine Spec.by (r01_Neg_spec hy7) (by simp only [seval,FMQ,eInt]) ?_
 simp only [seval,EMQ,SB,sz_133,eInt]
 cases h
 simp only [seval,FMQ,eInt,Tryz.results101,ag_135,sz_135]
 refine .skip fun e h=>?_
 cases h
 simp only [seval,FMQ,eInt,Tryz.results101,ag_135,sz_135]
 intro v1
 refine Mir.toK (.seqK (.bind fun y4 hy8=>.region fun e h=>?_))
 simp only [seval,EMQ,ag_133,sz_133,eInt]
 refine SpecS.by (r01_GCD_spec hy8) (by simp only [seval,FMQ,eInt]) ?_
 simp only [seval,EMQ,zero_133,sz_133,eInt]
 refine mU e (.seqK (.bind fun y5 hy9=>.region fun e h=>?_)) h
 simp only [seval,EMQ,ag_133,sz_133,eInt]
 refine SpecS.by (r01_DivMod_spec hy9) (by simp only [seval,FMQ,eInt]) ?_
 simp only [seval,EMQ,zero_133,sz_133,eInt]
 refine mU e (.seqK (.bind fun y6 hy10=>.region fun e h=>?_)) h
 simp only [seval,EMQ,ag_133,sz_133,eInt]
 refine SpecS.by (r01_DivMod_spec hy10) (by simp only [seval,FMQ,eInt]) ?_
 simp only [seval,EMQ,zero_133,sz_133,eInt]
 refine mU e (.sR fun e h=>?_) h
 simp only [seval,EMQ,ag_133,sz_133,zero_135,pl_135,sz_135,eInt]
 refine mU e (.ret fun e h=>?_) h
 cases h
 simp only [seval,FMQ,eInt,Tryz.results101,ag_135,sz_135]
def r02_Frac (a0 : Int) (a1 : Int) : Option ApiRat := bindO (if (a1 == 0) = true then some (0,1) else some (a0,a1)) fun (v1 : Int × Int)=>bindO (r01_FromInt64 v1.1) fun (y1 : ApiInt)=>bindO (r01_FromInt64 v1.2) fun (y2 : ApiInt)=>bindO (r02_Of y1 y2) fun (y3 : ApiRat)=>some y3
theorem r02_Frac_spec {a0 : Int} {a1 : Int} {y : ApiRat} (h : r02_Frac a0 a1 = some y) : Spec gP 76 [.d (.int .i64 a0),.d (.int .i64 a1)] (.agg [.d (.bool y.Num.Neg),.d (.list (List.map (eInt .u32) y.Num.Limbs)),.d (.bool y.Den.Neg),.d (.list (List.map (eInt .u32) y.Den.Limbs))]) := by
 refine spec_mir Tryz.func76 rfl (by kernel_rfl) (by kernel_rfl) (fun y : ApiRat=>.agg [.d (.bool y.Num.Neg),.d (.list (List.map (eInt .u32) y.Num.Limbs)),.d (.bool y.Den.Neg),.d (.list (List.map (eInt .u32) y.Den.Limbs))]) ?_ h
 unfold r02_Frac
 simp only [List.replicate,List.length,nS,nA,Tryz.ntmps76,SV]
 refine .sR fun e h=>?_
 simp only [seval,EMQ,zero_135]
 refine mU e (.seqK (.sR fun e h=>?_)) h
 simp only [seval,EMQ]
 refine mU e (Mir.joinO (fun v1 : Int × Int=>([.d (.int .i64 v1.1),.d (.int .i64 v1.2),U,U,.ptr 0 0] ++ us 7)) (fun v1=>⟨[[.d (.bool false),.nil,.d (.bool false),.nil]],[]⟩) (fun _=>rfl) ?_ ?_) h
 refine .cond rfl (fun hb2=>?_) (fun hb2=>?_)
 refine .region fun e h=>?_
 simp only [seval,EMQ]
 cases h
 simp only [seval,FMQ,Tryz.results76,ag_135,sz_135]
 refine .skip fun e h=>?_
 cases h
 simp only [seval,FMQ,Tryz.results76,ag_135,sz_135]
 intro v1
 refine Mir.toK (.seqK (.bind fun y1 hy3=>.bind fun y2 hy4=>.bind fun y3 hy5=>.region fun e h=>?_))
 simp only [seval,EMQ]
 refine SpecS.by (r01_FromInt64_spec hy3) (by simp only [seval,FMQ]) ?_
 simp only [seval,EMQ]
 refine SpecS.by (r01_FromInt64_spec hy4) (by simp only [seval,FMQ]) ?_
 simp only [seval,EMQ]
 refine SpecS.by (r02_Of_spec hy5) (by simp only [seval,FMQ]) ?_
 simp only [seval,EMQ,sz_135]
 refine mU e (.ret fun e h=>?_) h
 cases h
 simp only [seval,FMQ,Tryz.results76,ag_135,sz_135]
def r02_FromInt64 (a0 : Int) : Option ApiRat := bindO (r01_FromInt64 a0) fun (y1 : ApiInt)=>bindO (r02_unit ) fun (y2 : ApiInt)=>some (ApiRat.mk y1 y2)
theorem r02_FromInt64_spec {a0 : Int} {y : ApiRat} (h : r02_FromInt64 a0 = some y) : Spec gP 122 [.d (.int .i64 a0)] (.agg [.d (.bool y.Num.Neg),.d (.list (List.map (eInt .u32) y.Num.Limbs)),.d (.bool y.Den.Neg),.d (.list (List.map (eInt .u32) y.Den.Limbs))]) := by
 refine spec_mir Tryz.func122 rfl (by kernel_rfl) (by kernel_rfl) (fun y : ApiRat=>.agg [.d (.bool y.Num.Neg),.d (.list (List.map (eInt .u32) y.Num.Limbs)),.d (.bool y.Den.Neg),.d (.list (List.map (eInt .u32) y.Den.Limbs))]) ?_ h
 unfold r02_FromInt64
 simp only [List.replicate,List.length,nS,nA,Tryz.ntmps122,SV]
 refine .sR fun e h=>?_
 simp only [seval,EMQ,zero_135]
 refine mU e (.seqK (.bind fun y1 hy1=>.bind fun y2 hy2=>.region fun e h=>?_)) h
 simp only [seval,EMQ]
 refine SpecS.by (r01_FromInt64_spec hy1) (by simp only [seval,FMQ]) ?_
 simp only [seval,EMQ]
 refine SpecS.by (r02_unit_spec hy2) (rfl) ?_
 simp only [seval,EMQ,zero_135,pl_135,sz_135]
 refine mU e (.ret fun e h=>?_) h
 cases h
 simp only [seval,FMQ,Tryz.results122,ag_135,sz_135]
def r02_Mul (a0 : ApiRat) (a1 : ApiRat) : Option ApiRat := bindO (r01_Mul a0.Num a1.Num) fun (y1 : ApiInt)=>bindO (r01_Mul a0.Den a1.Den) fun (y2 : ApiInt)=>bindO (r02_Of y1 y2) fun (y3 : ApiRat)=>some y3
theorem r02_Mul_spec {a0 : ApiRat} {a1 : ApiRat} {y : ApiRat} (h : r02_Mul a0 a1 = some y) : Spec gP 86 [.agg [.d (.bool a0.Num.Neg),.d (.list (List.map (eInt .u32) a0.Num.Limbs)),.d (.bool a0.Den.Neg),.d (.list (List.map (eInt .u32) a0.Den.Limbs))],.agg [.d (.bool a1.Num.Neg),.d (.list (List.map (eInt .u32) a1.Num.Limbs)),.d (.bool a1.Den.Neg),.d (.list (List.map (eInt .u32) a1.Den.Limbs))]] (.agg [.d (.bool y.Num.Neg),.d (.list (List.map (eInt .u32) y.Num.Limbs)),.d (.bool y.Den.Neg),.d (.list (List.map (eInt .u32) y.Den.Limbs))]) := by
 refine spec_mir Tryz.func86 rfl (by kernel_rfl) (by kernel_rfl) (fun y : ApiRat=>.agg [.d (.bool y.Num.Neg),.d (.list (List.map (eInt .u32) y.Num.Limbs)),.d (.bool y.Den.Neg),.d (.list (List.map (eInt .u32) y.Den.Limbs))]) ?_ h
 unfold r02_Mul
 simp only [List.replicate,List.length,nS,nA,Tryz.ntmps86,SV]
 refine .sR fun e h=>?_
 simp only [seval,EMQ,zero_135,eInt]
 refine mU e (.seqK (.bind fun y1 hy1=>.bind fun y2 hy2=>.bind fun y3 hy3=>.regionD [] (by kernel_rfl) fun e h=>?_)) h
 simp only [seval,EMQ,SB,fld_135_0,sz_133,ag_133,eInt]
 refine Spec.by (r01_Mul_spec hy1) (by simp only [seval,FMQ,eInt]) ?_
 simp only [seval,EMQ,SB,fld_135_1,sz_133,ag_133,eInt]
 refine Spec.by (r01_Mul_spec hy2) (by simp only [seval,FMQ,eInt]) ?_
 simp only [seval,EMQ,SB,eInt]
 refine Spec.by (r02_Of_spec hy3) (by simp only [seval,FMQ,eInt]) ?_
 simp only [seval,EMQ,SB,sz_135,eInt]
 refine mU e (.ret fun e h=>?_) h
 cases h
 simp only [seval,FMQ,eInt,Tryz.results86,ag_135,sz_135]
def r06_Power (a0 : Int) : Option ApiRat := bindO (r02_FromInt64 1) fun (y1 : ApiRat)=>bindO (loopX (fun (v1 : Int × ApiRat)=>if (decide (v1.1 < a0)) = true then bindO (r02_FromInt64 10) fun (y2 : ApiRat)=>bindO (r02_Mul v1.2 y2) fun (y3 : ApiRat)=>some (.go (IntKind.i64.wrap (v1.1 + 1),y3)) else some (.ret v1.2)) fuel (0,ApiRat.mk y1.Num y1.Den)) fun (v2 : ApiRat)=>some v2
theorem r06_Power_spec {a0 : Int} {y : ApiRat} (h : r06_Power a0 = some y) : Spec gP 87 [.d (.int .i64 a0)] (.agg [.d (.bool y.Num.Neg),.d (.list (List.map (eInt .u32) y.Num.Limbs)),.d (.bool y.Den.Neg),.d (.list (List.map (eInt .u32) y.Den.Limbs))]) := by
 refine spec_mir Tryz.func87 rfl (by kernel_rfl) (by kernel_rfl) (fun y : ApiRat=>.agg [.d (.bool y.Num.Neg),.d (.list (List.map (eInt .u32) y.Num.Limbs)),.d (.bool y.Den.Neg),.d (.list (List.map (eInt .u32) y.Den.Limbs))]) ?_ h
 unfold r06_Power
 simp only [List.replicate,List.length,nS,nA,Tryz.ntmps87,SV]
 refine .sR fun e h=>?_
 simp only [seval,EMQ,zero_135]
 refine mU e (.seqK (.bind fun y1 hy1=>.region fun e h=>?_)) h
 simp only [seval,EMQ]
 refine SpecS.by (r02_FromInt64_spec hy1) (by simp only [seval,FMQ]) ?_
 simp only [seval,EMQ,zero_135,sz_135]
 refine mU e (.seqK (.sR fun e h=>?_)) h
 simp only [seval,EMQ]
 refine mU e (Mir.joinO (fun v2 : ApiRat=>([U,U,.ptr 0 0,.ptr 1 0] ++ us 11)) (fun v2=>⟨[[.d (.bool false),.nil,.d (.bool false),.nil],[.d (.bool v2.Num.Neg),.d (.list (List.map (eInt .u32) v2.Num.Limbs)),.d (.bool v2.Den.Neg),.d (.list (List.map (eInt .u32) v2.Den.Limbs))]],[]⟩) (fun _=>rfl) ?_ ?_) h
 refine .block (Mir.loop (fun v1 : Int × ApiRat=>([.d (.int .i64 a0),U,.ptr 0 0,.ptr 1 0,.d (.int .i64 v1.1)] ++ us 10)) (fun v1=>⟨[[.d (.bool false),.nil,.d (.bool false),.nil],[.d (.bool v1.2.Num.Neg),.d (.list (List.map (eInt .u32) v1.2.Num.Limbs)),.d (.bool v1.2.Den.Neg),.d (.list (List.map (eInt .u32) v1.2.Den.Limbs))]],[]⟩) (fun _=>rfl) (by simp only [seval,FMQ]) (by simp only [seval,FMQ]) fun v1=>.seqK (.sR fun e h=>?_))
 simp only [seval,EMQ]
 refine mU e (.cond rfl (fun hb33=>?_) (fun hb33=>?_)) h
 refine .skip (Mir.toK (.seqK (.block (.bind fun y2 hy36=>.bind fun y3 hy37=>.regionD [] (by kernel_rfl) fun e h=>?_))))
 simp only [seval,EMQ,SB,ag_135,sz_135]
 refine Spec.by (r02_FromInt64_spec hy36) (by simp only [seval,FMQ]) ?_
 simp only [seval,EMQ,SB]
 refine Spec.by (r02_Mul_spec hy37) (by simp only [seval,FMQ]) ?_
 simp only [seval,EMQ,SB,sz_135]
 refine mU e (.region fun e h=>?_) h
 simp only [seval,EMQ]
 cases h
 simp only [seval,FMQ,Tryz.results87,ag_135,sz_135]
 refine .exit fun e h=>?_
 cases h
 simp only [seval,FMQ,Tryz.results87,ag_135,sz_135]
 intro v2
 refine Mir.toK (.sR fun e h=>?_)
 simp only [seval,EMQ,ag_135,sz_135]
 refine mU e (.ret fun e h=>?_) h
 cases h
 simp only [seval,FMQ,Tryz.results87,ag_135,sz_135]
def r02_Make (a0 : ApiInt) (a1 : ApiInt) : Option (ApiRat × Int) := bindO (r01_Sign a1) fun (y1 : Int)=>if (y1 == 0) = true then some (ApiRat.mk (ApiInt.mk false []) (ApiInt.mk false []),6) else bindO (r02_Of a0 a1) fun (y2 : ApiRat)=>some (y2,0)
def r02_Div (a0 : ApiRat) (a1 : ApiRat) : Option (ApiRat × Int) := bindO (r01_Mul a0.Num a1.Den) fun (y1 : ApiInt)=>bindO (r01_Mul a0.Den a1.Num) fun (y2 : ApiInt)=>bindO (r02_Make y1 (ApiInt.mk y2.Neg y2.Limbs)) fun (y3 : ApiRat × Int)=>some (y3.1,y3.2)
def r02_Over (a0 : ApiRat) (a1 : ApiRat) : Option ApiRat := bindO (r02_Div (ApiRat.mk a0.Num a0.Den) (ApiRat.mk a1.Num a1.Den)) fun (y1 : ApiRat × Int)=>some y1.1
def r02_Floor (a0 : ApiRat) : Option ApiInt := bindO (r01_DivMod a0.Num a0.Den) fun (y1 : ApiInt × ApiInt × Int)=>some y1.1
def r06_within (a0 : ApiInt) : Option (Int × Bool) := bindO (r01_Int64 a0) fun (y1 : Int × Bool)=>some (y1.1,y1.2 && ((decide (y1.1 ≥ (-10000000))) && (decide (y1.1 ≤ 10000000))))
end Go.Proofs.YtjamgiobipdfhaaGreatDoor
