import Derived.Test.YtjamgiobipdfhaaGreatDoorGx
import Derived.Test.YtjamgiobipdfhaaGreatDoorTy
import Derived.Test.YtjamgiobipdfhaaGreatDoorMI
open List renaming map → zC,replicate → zD,length → zE
namespace Go.Proofs.YtjamgiobipdfhaaGreatDoor
open Go.RowKit
open Nat renaming reduceAdd → nA,reduceSub → nS,reduceMul → nM,reduceEqDiff → nE,reduceLeDiff → nL,reduceLT → nT,reduceBEq → nB
open Int renaming reduceLT → iT,reduceToNat → iN,reduceEq → iE
set_option linter.unusedVariables false
set_option linter.unusedSimpArgs false
set_option maxRecDepth 100000
set_option maxHeartbeats 8000000
structure ApiRat where
 Num : ApiInt
 Den : ApiInt
 deriving DecidableEq
def encApiRat (x : ApiRat) : List D := [.bool x.Num.Neg,.list (zC (eInt .u32) x.Num.Limbs),.bool x.Den.Neg,.list (zC (eInt .u32) x.Den.Limbs)]
theorem ENMQ : type_of% (@encApiRat.eq_1) := @encApiRat.eq_1
theorem EMQ : type_of% (And.intro @SE <| @ENMQ) := And.intro @SE <| @ENMQ
theorem FMQ : type_of% (And.intro @SF <| @ENMQ) := And.intro @SF <| @ENMQ
def r02_unit  : Option ApiInt := bindO (r01_FromInt64 1) λ(y1 : ApiInt)=>some y1
theorem r02_unit_spec  {y : ApiInt} (h : r02_unit = some y) : Spec gP 152 [] (.agg [.d (.bool y.Neg),.d (.list (zC (eInt .u32) y.Limbs))]) := by
 refine spec_mir Tryz.func152 rfl (by kernel_rfl) (by kernel_rfl) (λy : ApiInt=>.agg [.d (.bool y.Neg),.d (.list (zC (eInt .u32) y.Limbs))]) ?_ h
 unfold r02_unit
 simp only [zD,zE,nS,nA,Tryz.ntmps152,SV]
 refine .sR λe h=>?_
 simp only [seval,EMQ,zero_133]
 refine mU e (.seqK (.bind λy1 hy1=>.region λe h=>?_)) h
 simp only [seval,EMQ]
 refine SpecS.by (r01_FromInt64_spec hy1) (by simp only [seval,FMQ]) ?_
 simp only [seval,EMQ,sz_133]
 refine mU e (.ret λe h=>?_) h
 cases h
 simp only [seval,FMQ,Tryz.results152,ag_133,sz_133]
def r02_FromInt (a0 : ApiInt) : Option ApiRat := bindO (r02_unit ) λ(y1 : ApiInt)=>some (ApiRat.mk a0 y1)
theorem r02_FromInt_spec {a0 : ApiInt} {y : ApiRat} (h : r02_FromInt a0 = some y) : Spec gP 118 [.agg [.d (.bool a0.Neg),.d (.list (zC (eInt .u32) a0.Limbs))]] (.agg [.d (.bool y.Num.Neg),.d (.list (zC (eInt .u32) y.Num.Limbs)),.d (.bool y.Den.Neg),.d (.list (zC (eInt .u32) y.Den.Limbs))]) := by
 refine spec_mir Tryz.func118 rfl (by kernel_rfl) (by kernel_rfl) (λy : ApiRat=>.agg [.d (.bool y.Num.Neg),.d (.list (zC (eInt .u32) y.Num.Limbs)),.d (.bool y.Den.Neg),.d (.list (zC (eInt .u32) y.Den.Limbs))]) ?_ h
 unfold r02_FromInt
 simp only [zD,zE,nS,nA,Tryz.ntmps118,SV]
 refine .sR λe h=>?_
 simp only [seval,EMQ,zero_135,eInt]
 refine mU e (.seqK (.bind λy1 hy1=>.regionD [] (by kernel_rfl) λe h=>?_)) h
 simp only [seval,EMQ,SB,ag_133,sz_133,eInt]
 refine Spec.by (r02_unit_spec hy1) (rfl) ?_
 simp only [seval,EMQ,SB,zero_135,pl_135,sz_135,eInt]
 refine mU e (.ret λe h=>?_) h
 cases h
 simp only [seval,FMQ,eInt,Tryz.results118,ag_135,sz_135]
def r02_Of (a0 : ApiInt) (a1 : ApiInt) : Option ApiRat := bindO (r01_Sign a1) λ(y1 : Int)=>bindO (if (decide (y1 < 0)) = true then bindO (r01_Neg a0) λ(y2 : ApiInt)=>bindO (r01_Neg a1) λ(y3 : ApiInt)=>some (y2,y3) else some (a0,a1)) λ(v1 : ApiInt × ApiInt)=>bindO (r01_GCD v1.1 v1.2) λ(y4 : ApiInt)=>bindO (r01_DivMod v1.1 y4) λ(y5 : ApiInt × ApiInt × Int)=>bindO (r01_DivMod v1.2 y4) λ(y6 : ApiInt × ApiInt × Int)=>some (ApiRat.mk y5.1 y6.1)
theorem r02_Of_spec {a0 : ApiInt} {a1 : ApiInt} {y : ApiRat} (h : r02_Of a0 a1 = some y) : Spec gP 101 [.agg [.d (.bool a0.Neg),.d (.list (zC (eInt .u32) a0.Limbs))],.agg [.d (.bool a1.Neg),.d (.list (zC (eInt .u32) a1.Limbs))]] (.agg [.d (.bool y.Num.Neg),.d (.list (zC (eInt .u32) y.Num.Limbs)),.d (.bool y.Den.Neg),.d (.list (zC (eInt .u32) y.Den.Limbs))]) := by
 refine spec_mir Tryz.func101 rfl (by kernel_rfl) (by kernel_rfl) (λy : ApiRat=>.agg [.d (.bool y.Num.Neg),.d (.list (zC (eInt .u32) y.Num.Limbs)),.d (.bool y.Den.Neg),.d (.list (zC (eInt .u32) y.Den.Limbs))]) ?_ h
 unfold r02_Of
 simp only [zD,zE,nS,nA,Tryz.ntmps101,SV]
 refine .sR λe h=>?_
 simp only [seval,EMQ,zero_135,eInt]
 refine mU e (.seqK (.seqK (.bind λy1 hy1=>.region λe h=>?_))) h
 simp only [seval,EMQ,ag_133,sz_133,eInt]
 refine SpecS.by (r01_Sign_spec hy1) (by simp only [seval,FMQ,eInt]) ?_
 simp only [seval,EMQ,eInt]
 refine mU e (Mir.joinO (λv1 : ApiInt × ApiInt=>([U,U,.ptr 0 0,.ptr 1 0,.ptr 2 0] ++ us 34)) (λv1=>⟨[[.d (.bool v1.1.Neg),.d (.list (zC (eInt .u32) v1.1.Limbs))],[.d (.bool v1.2.Neg),.d (.list (zC (eInt .u32) v1.2.Limbs))],[.d (.bool false),.nil,.d (.bool false),.nil]],[]⟩) (λ_=>rfl) ?_ ?_) h
 refine .cond rfl (λhb5=>?_) (λhb5=>?_)
 refine .bind λy2 hy6=>.bind λy3 hy7=>.regionD [] (by kernel_rfl) λe h=>?_
 simp only [seval,EMQ,SB,ag_133,sz_133,eInt]
 refine Spec.by (r01_Neg_spec hy6) (by simp only [seval,FMQ,eInt]) ?_
 simp only [seval,EMQ,SB,ag_133,sz_133,eInt]
 refine Spec.by (r01_Neg_spec hy7) (by simp only [seval,FMQ,eInt]) ?_
 simp only [seval,EMQ,SB,sz_133,eInt]
 cases h
 simp only [seval,FMQ,eInt,Tryz.results101,ag_135,sz_135]
 refine .skip λe h=>?_
 cases h
 simp only [seval,FMQ,eInt,Tryz.results101,ag_135,sz_135]
 intro v1
 refine Mir.toK (.seqK (.bind λy4 hy8=>.region λe h=>?_))
 simp only [seval,EMQ,ag_133,sz_133,eInt]
 refine SpecS.by (r01_GCD_spec hy8) (by simp only [seval,FMQ,eInt]) ?_
 simp only [seval,EMQ,zero_133,sz_133,eInt]
 refine mU e (.seqK (.bind λy5 hy9=>.region λe h=>?_)) h
 simp only [seval,EMQ,ag_133,sz_133,eInt]
 refine SpecS.by (r01_DivMod_spec hy9) (by simp only [seval,FMQ,eInt]) ?_
 simp only [seval,EMQ,zero_133,sz_133,eInt]
 refine mU e (.seqK (.bind λy6 hy10=>.region λe h=>?_)) h
 simp only [seval,EMQ,ag_133,sz_133,eInt]
 refine SpecS.by (r01_DivMod_spec hy10) (by simp only [seval,FMQ,eInt]) ?_
 simp only [seval,EMQ,zero_133,sz_133,eInt]
 refine mU e (.sR λe h=>?_) h
 simp only [seval,EMQ,ag_133,sz_133,zero_135,pl_135,sz_135,eInt]
 refine mU e (.ret λe h=>?_) h
 cases h
 simp only [seval,FMQ,eInt,Tryz.results101,ag_135,sz_135]
def r02_Frac (a0 : Int) (a1 : Int) : Option ApiRat := bindO (if (a1 == 0) = true then some (0,1) else some (a0,a1)) λ(v1 : Int × Int)=>bindO (r01_FromInt64 v1.1) λ(y1 : ApiInt)=>bindO (r01_FromInt64 v1.2) λ(y2 : ApiInt)=>bindO (r02_Of y1 y2) λ(y3 : ApiRat)=>some y3
theorem r02_Frac_spec {a0 : Int} {a1 : Int} {y : ApiRat} (h : r02_Frac a0 a1 = some y) : Spec gP 76 [.d (.int .i64 a0),.d (.int .i64 a1)] (.agg [.d (.bool y.Num.Neg),.d (.list (zC (eInt .u32) y.Num.Limbs)),.d (.bool y.Den.Neg),.d (.list (zC (eInt .u32) y.Den.Limbs))]) := by
 refine spec_mir Tryz.func76 rfl (by kernel_rfl) (by kernel_rfl) (λy : ApiRat=>.agg [.d (.bool y.Num.Neg),.d (.list (zC (eInt .u32) y.Num.Limbs)),.d (.bool y.Den.Neg),.d (.list (zC (eInt .u32) y.Den.Limbs))]) ?_ h
 unfold r02_Frac
 simp only [zD,zE,nS,nA,Tryz.ntmps76,SV]
 refine .sR λe h=>?_
 simp only [seval,EMQ,zero_135]
 refine mU e (.seqK (.sR λe h=>?_)) h
 simp only [seval,EMQ]
 refine mU e (Mir.joinO (λv1 : Int × Int=>([.d (.int .i64 v1.1),.d (.int .i64 v1.2),U,U,.ptr 0 0] ++ us 7)) (λv1=>⟨[[.d (.bool false),.nil,.d (.bool false),.nil]],[]⟩) (λ_=>rfl) ?_ ?_) h
 refine .cond rfl (λhb2=>?_) (λhb2=>?_)
 refine .region λe h=>?_
 simp only [seval,EMQ]
 cases h
 simp only [seval,FMQ,Tryz.results76,ag_135,sz_135]
 refine .skip λe h=>?_
 cases h
 simp only [seval,FMQ,Tryz.results76,ag_135,sz_135]
 intro v1
 refine Mir.toK (.seqK (.bind λy1 hy3=>.bind λy2 hy4=>.bind λy3 hy5=>.region λe h=>?_))
 simp only [seval,EMQ]
 refine SpecS.by (r01_FromInt64_spec hy3) (by simp only [seval,FMQ]) ?_
 simp only [seval,EMQ]
 refine SpecS.by (r01_FromInt64_spec hy4) (by simp only [seval,FMQ]) ?_
 simp only [seval,EMQ]
 refine SpecS.by (r02_Of_spec hy5) (by simp only [seval,FMQ]) ?_
 simp only [seval,EMQ,sz_135]
 refine mU e (.ret λe h=>?_) h
 cases h
 simp only [seval,FMQ,Tryz.results76,ag_135,sz_135]
def r02_FromInt64 (a0 : Int) : Option ApiRat := bindO (r01_FromInt64 a0) λ(y1 : ApiInt)=>bindO (r02_unit ) λ(y2 : ApiInt)=>some (ApiRat.mk y1 y2)
theorem r02_FromInt64_spec {a0 : Int} {y : ApiRat} (h : r02_FromInt64 a0 = some y) : Spec gP 122 [.d (.int .i64 a0)] (.agg [.d (.bool y.Num.Neg),.d (.list (zC (eInt .u32) y.Num.Limbs)),.d (.bool y.Den.Neg),.d (.list (zC (eInt .u32) y.Den.Limbs))]) := by
 refine spec_mir Tryz.func122 rfl (by kernel_rfl) (by kernel_rfl) (λy : ApiRat=>.agg [.d (.bool y.Num.Neg),.d (.list (zC (eInt .u32) y.Num.Limbs)),.d (.bool y.Den.Neg),.d (.list (zC (eInt .u32) y.Den.Limbs))]) ?_ h
 unfold r02_FromInt64
 simp only [zD,zE,nS,nA,Tryz.ntmps122,SV]
 refine .sR λe h=>?_
 simp only [seval,EMQ,zero_135]
 refine mU e (.seqK (.bind λy1 hy1=>.bind λy2 hy2=>.region λe h=>?_)) h
 simp only [seval,EMQ]
 refine SpecS.by (r01_FromInt64_spec hy1) (by simp only [seval,FMQ]) ?_
 simp only [seval,EMQ]
 refine SpecS.by (r02_unit_spec hy2) (rfl) ?_
 simp only [seval,EMQ,zero_135,pl_135,sz_135]
 refine mU e (.ret λe h=>?_) h
 cases h
 simp only [seval,FMQ,Tryz.results122,ag_135,sz_135]
def r02_Mul (a0 : ApiRat) (a1 : ApiRat) : Option ApiRat := bindO (r01_Mul a0.Num a1.Num) λ(y1 : ApiInt)=>bindO (r01_Mul a0.Den a1.Den) λ(y2 : ApiInt)=>bindO (r02_Of y1 y2) λ(y3 : ApiRat)=>some y3
theorem r02_Mul_spec {a0 : ApiRat} {a1 : ApiRat} {y : ApiRat} (h : r02_Mul a0 a1 = some y) : Spec gP 86 [.agg [.d (.bool a0.Num.Neg),.d (.list (zC (eInt .u32) a0.Num.Limbs)),.d (.bool a0.Den.Neg),.d (.list (zC (eInt .u32) a0.Den.Limbs))],.agg [.d (.bool a1.Num.Neg),.d (.list (zC (eInt .u32) a1.Num.Limbs)),.d (.bool a1.Den.Neg),.d (.list (zC (eInt .u32) a1.Den.Limbs))]] (.agg [.d (.bool y.Num.Neg),.d (.list (zC (eInt .u32) y.Num.Limbs)),.d (.bool y.Den.Neg),.d (.list (zC (eInt .u32) y.Den.Limbs))]) := by
 refine spec_mir Tryz.func86 rfl (by kernel_rfl) (by kernel_rfl) (λy : ApiRat=>.agg [.d (.bool y.Num.Neg),.d (.list (zC (eInt .u32) y.Num.Limbs)),.d (.bool y.Den.Neg),.d (.list (zC (eInt .u32) y.Den.Limbs))]) ?_ h
 unfold r02_Mul
 simp only [zD,zE,nS,nA,Tryz.ntmps86,SV]
 refine .sR λe h=>?_
 simp only [seval,EMQ,zero_135,eInt]
 refine mU e (.seqK (.bind λy1 hy1=>.bind λy2 hy2=>.bind λy3 hy3=>.regionD [] (by kernel_rfl) λe h=>?_)) h
 simp only [seval,EMQ,SB,fld_135_0,sz_133,ag_133,eInt]
 refine Spec.by (r01_Mul_spec hy1) (by simp only [seval,FMQ,eInt]) ?_
 simp only [seval,EMQ,SB,fld_135_1,sz_133,ag_133,eInt]
 refine Spec.by (r01_Mul_spec hy2) (by simp only [seval,FMQ,eInt]) ?_
 simp only [seval,EMQ,SB,eInt]
 refine Spec.by (r02_Of_spec hy3) (by simp only [seval,FMQ,eInt]) ?_
 simp only [seval,EMQ,SB,sz_135,eInt]
 refine mU e (.ret λe h=>?_) h
 cases h
 simp only [seval,FMQ,eInt,Tryz.results86,ag_135,sz_135]
def r06_Power (a0 : Int) : Option ApiRat := bindO (r02_FromInt64 1) λ(y1 : ApiRat)=>bindO (loopX (λ(v1 : Int × ApiRat)=>if (decide (v1.1 < a0)) = true then bindO (r02_FromInt64 10) λ(y2 : ApiRat)=>bindO (r02_Mul v1.2 y2) λ(y3 : ApiRat)=>some (.go (IntKind.i64.wrap (v1.1 + 1),y3)) else some (.ret v1.2)) fuel (0,ApiRat.mk y1.Num y1.Den)) λ(v2 : ApiRat)=>some v2
theorem r06_Power_spec {a0 : Int} {y : ApiRat} (h : r06_Power a0 = some y) : Spec gP 87 [.d (.int .i64 a0)] (.agg [.d (.bool y.Num.Neg),.d (.list (zC (eInt .u32) y.Num.Limbs)),.d (.bool y.Den.Neg),.d (.list (zC (eInt .u32) y.Den.Limbs))]) := by
 refine spec_mir Tryz.func87 rfl (by kernel_rfl) (by kernel_rfl) (λy : ApiRat=>.agg [.d (.bool y.Num.Neg),.d (.list (zC (eInt .u32) y.Num.Limbs)),.d (.bool y.Den.Neg),.d (.list (zC (eInt .u32) y.Den.Limbs))]) ?_ h
 unfold r06_Power
 simp only [zD,zE,nS,nA,Tryz.ntmps87,SV]
 refine .sR λe h=>?_
 simp only [seval,EMQ,zero_135]
 refine mU e (.seqK (.bind λy1 hy1=>.region λe h=>?_)) h
 simp only [seval,EMQ]
 refine SpecS.by (r02_FromInt64_spec hy1) (by simp only [seval,FMQ]) ?_
 simp only [seval,EMQ,zero_135,sz_135]
 refine mU e (.seqK (.sR λe h=>?_)) h
 simp only [seval,EMQ]
 refine mU e (Mir.joinO (λv2 : ApiRat=>([U,U,.ptr 0 0,.ptr 1 0] ++ us 11)) (λv2=>⟨[[.d (.bool false),.nil,.d (.bool false),.nil],[.d (.bool v2.Num.Neg),.d (.list (zC (eInt .u32) v2.Num.Limbs)),.d (.bool v2.Den.Neg),.d (.list (zC (eInt .u32) v2.Den.Limbs))]],[]⟩) (λ_=>rfl) ?_ ?_) h
 refine .block (Mir.loop (λv1 : Int × ApiRat=>([.d (.int .i64 a0),U,.ptr 0 0,.ptr 1 0,.d (.int .i64 v1.1)] ++ us 10)) (λv1=>⟨[[.d (.bool false),.nil,.d (.bool false),.nil],[.d (.bool v1.2.Num.Neg),.d (.list (zC (eInt .u32) v1.2.Num.Limbs)),.d (.bool v1.2.Den.Neg),.d (.list (zC (eInt .u32) v1.2.Den.Limbs))]],[]⟩) (λ_=>rfl) (by simp only [seval,FMQ]) (by simp only [seval,FMQ]) λv1=>.seqK (.sR λe h=>?_))
 simp only [seval,EMQ]
 refine mU e (.cond rfl (λhb33=>?_) (λhb33=>?_)) h
 refine .skip (Mir.toK (.seqK (.block (.bind λy2 hy36=>.bind λy3 hy37=>.regionD [] (by kernel_rfl) λe h=>?_))))
 simp only [seval,EMQ,SB,ag_135,sz_135]
 refine Spec.by (r02_FromInt64_spec hy36) (by simp only [seval,FMQ]) ?_
 simp only [seval,EMQ,SB]
 refine Spec.by (r02_Mul_spec hy37) (by simp only [seval,FMQ]) ?_
 simp only [seval,EMQ,SB,sz_135]
 refine mU e (.region λe h=>?_) h
 simp only [seval,EMQ]
 cases h
 simp only [seval,FMQ,Tryz.results87,ag_135,sz_135]
 refine .exit λe h=>?_
 cases h
 simp only [seval,FMQ,Tryz.results87,ag_135,sz_135]
 intro v2
 refine Mir.toK (.sR λe h=>?_)
 simp only [seval,EMQ,ag_135,sz_135]
 refine mU e (.ret λe h=>?_) h
 cases h
 simp only [seval,FMQ,Tryz.results87,ag_135,sz_135]
def r02_Make (a0 : ApiInt) (a1 : ApiInt) : Option (ApiRat × Int) := bindO (r01_Sign a1) λ(y1 : Int)=>if (y1 == 0) = true then some (ApiRat.mk (ApiInt.mk false []) (ApiInt.mk false []),6) else bindO (r02_Of a0 a1) λ(y2 : ApiRat)=>some (y2,0)
theorem r02_Make_spec {a0 : ApiInt} {a1 : ApiInt} {y : ApiRat × Int} (h : r02_Make a0 a1 = some y) : Spec gP 172 [.agg [.d (.bool a0.Neg),.d (.list (zC (eInt .u32) a0.Limbs))],.agg [.d (.bool a1.Neg),.d (.list (zC (eInt .u32) a1.Limbs))]] (.tuple [.agg [.d (.bool y.1.Num.Neg),.d (.list (zC (eInt .u32) y.1.Num.Limbs)),.d (.bool y.1.Den.Neg),.d (.list (zC (eInt .u32) y.1.Den.Limbs))],.d (.int .i64 y.2)]) := by
 refine spec_mir Tryz.func172 rfl (by kernel_rfl) (by kernel_rfl) (λy : ApiRat × Int=>.tuple [.agg [.d (.bool y.1.Num.Neg),.d (.list (zC (eInt .u32) y.1.Num.Limbs)),.d (.bool y.1.Den.Neg),.d (.list (zC (eInt .u32) y.1.Den.Limbs))],.d (.int .i64 y.2)]) ?_ h
 unfold r02_Make
 simp only [zD,zE,nS,nA,Tryz.ntmps172,SV]
 refine .sR λe h=>?_
 simp only [seval,EMQ,zero_135,eInt]
 refine mU e (.seqK (.seqK (.bind λy1 hy1=>.region λe h=>?_))) h
 simp only [seval,EMQ,ag_133,sz_133,eInt]
 refine SpecS.by (r01_Sign_spec hy1) (by simp only [seval,FMQ,eInt]) ?_
 simp only [seval,EMQ,eInt]
 refine mU e (.cond rfl (λhb3=>?_) (λhb3=>?_)) h
 refine .sR λe h=>?_
 simp only [seval,EMQ,zero_135,pl_135,sz_135,eInt]
 refine mU e (.ret λe h=>?_) h
 cases h
 simp only [seval,FMQ,eInt,Tryz.results172,ag_135,sz_135]
 refine .skip (Mir.toK (.seqK (.bind λy2 hy4=>.region λe h=>?_)))
 simp only [seval,EMQ,ag_133,sz_133,eInt]
 refine SpecS.by (r02_Of_spec hy4) (by simp only [seval,FMQ,eInt]) ?_
 simp only [seval,EMQ,sz_135,eInt]
 refine mU e (.ret λe h=>?_) h
 cases h
 simp only [seval,FMQ,eInt,Tryz.results172,ag_135,sz_135]
def r02_Div (a0 : ApiRat) (a1 : ApiRat) : Option (ApiRat × Int) := bindO (r01_Mul a0.Num a1.Den) λ(y1 : ApiInt)=>bindO (r01_Mul a0.Den a1.Num) λ(y2 : ApiInt)=>bindO (r02_Make y1 (ApiInt.mk y2.Neg y2.Limbs)) λ(y3 : ApiRat × Int)=>some (y3.1,y3.2)
theorem r02_Div_spec {a0 : ApiRat} {a1 : ApiRat} {y : ApiRat × Int} (h : r02_Div a0 a1 = some y) : Spec gP 151 [.agg [.d (.bool a0.Num.Neg),.d (.list (zC (eInt .u32) a0.Num.Limbs)),.d (.bool a0.Den.Neg),.d (.list (zC (eInt .u32) a0.Den.Limbs))],.agg [.d (.bool a1.Num.Neg),.d (.list (zC (eInt .u32) a1.Num.Limbs)),.d (.bool a1.Den.Neg),.d (.list (zC (eInt .u32) a1.Den.Limbs))]] (.tuple [.agg [.d (.bool y.1.Num.Neg),.d (.list (zC (eInt .u32) y.1.Num.Limbs)),.d (.bool y.1.Den.Neg),.d (.list (zC (eInt .u32) y.1.Den.Limbs))],.d (.int .i64 y.2)]) := by
 refine spec_mir Tryz.func151 rfl (by kernel_rfl) (by kernel_rfl) (λy : ApiRat × Int=>.tuple [.agg [.d (.bool y.1.Num.Neg),.d (.list (zC (eInt .u32) y.1.Num.Limbs)),.d (.bool y.1.Den.Neg),.d (.list (zC (eInt .u32) y.1.Den.Limbs))],.d (.int .i64 y.2)]) ?_ h
 unfold r02_Div
 simp only [zD,zE,nS,nA,Tryz.ntmps151,SV]
 refine .sR λe h=>?_
 simp only [seval,EMQ,zero_135,eInt]
 refine mU e (.seqK (.bind λy1 hy1=>.bind λy2 hy2=>.bind λy3 hy3=>.regionD [] (by kernel_rfl) λe h=>?_)) h
 simp only [seval,EMQ,SB,fld_135_0,sz_133,ag_133,fld_135_1,eInt]
 refine Spec.by (r01_Mul_spec hy1) (by simp only [seval,FMQ,eInt]) ?_
 simp only [seval,EMQ,SB,fld_135_1,sz_133,ag_133,fld_135_0,eInt]
 refine Spec.by (r01_Mul_spec hy2) (by simp only [seval,FMQ,eInt]) ?_
 simp only [seval,EMQ,SB,eInt]
 refine Spec.by (r02_Make_spec hy3) (by simp only [seval,FMQ,eInt]) ?_
 simp only [seval,EMQ,SB,sz_135,eInt]
 refine mU e (.ret λe h=>?_) h
 cases h
 simp only [seval,FMQ,eInt,Tryz.results151,ag_135,sz_135]
def r02_Over (a0 : ApiRat) (a1 : ApiRat) : Option ApiRat := bindO (r02_Div (ApiRat.mk a0.Num a0.Den) (ApiRat.mk a1.Num a1.Den)) λ(y1 : ApiRat × Int)=>some y1.1
theorem r02_Over_spec {a0 : ApiRat} {a1 : ApiRat} {y : ApiRat} (h : r02_Over a0 a1 = some y) : Spec gP 117 [.agg [.d (.bool a0.Num.Neg),.d (.list (zC (eInt .u32) a0.Num.Limbs)),.d (.bool a0.Den.Neg),.d (.list (zC (eInt .u32) a0.Den.Limbs))],.agg [.d (.bool a1.Num.Neg),.d (.list (zC (eInt .u32) a1.Num.Limbs)),.d (.bool a1.Den.Neg),.d (.list (zC (eInt .u32) a1.Den.Limbs))]] (.agg [.d (.bool y.Num.Neg),.d (.list (zC (eInt .u32) y.Num.Limbs)),.d (.bool y.Den.Neg),.d (.list (zC (eInt .u32) y.Den.Limbs))]) := by
 refine spec_mir Tryz.func117 rfl (by kernel_rfl) (by kernel_rfl) (λy : ApiRat=>.agg [.d (.bool y.Num.Neg),.d (.list (zC (eInt .u32) y.Num.Limbs)),.d (.bool y.Den.Neg),.d (.list (zC (eInt .u32) y.Den.Limbs))]) ?_ h
 unfold r02_Over
 simp only [zD,zE,nS,nA,Tryz.ntmps117,SV]
 refine .sR λe h=>?_
 simp only [seval,EMQ,zero_135,eInt]
 refine mU e (.seqK (.bind λy1 hy1=>.region λe h=>?_)) h
 simp only [seval,EMQ,ag_135,sz_135,eInt]
 refine SpecS.by (r02_Div_spec hy1) (by simp only [seval,FMQ,eInt]) ?_
 simp only [seval,EMQ,zero_135,sz_135,eInt]
 refine mU e (.sR λe h=>?_) h
 simp only [seval,EMQ,ag_135,sz_135,eInt]
 refine mU e (.ret λe h=>?_) h
 cases h
 simp only [seval,FMQ,eInt,Tryz.results117,ag_135,sz_135]
def r02_Floor (a0 : ApiRat) : Option ApiInt := bindO (r01_DivMod a0.Num a0.Den) λ(y1 : ApiInt × ApiInt × Int)=>some y1.1
theorem r02_Floor_spec {a0 : ApiRat} {y : ApiInt} (h : r02_Floor a0 = some y) : Spec gP 85 [.agg [.d (.bool a0.Num.Neg),.d (.list (zC (eInt .u32) a0.Num.Limbs)),.d (.bool a0.Den.Neg),.d (.list (zC (eInt .u32) a0.Den.Limbs))]] (.agg [.d (.bool y.Neg),.d (.list (zC (eInt .u32) y.Limbs))]) := by
 refine spec_mir Tryz.func85 rfl (by kernel_rfl) (by kernel_rfl) (λy : ApiInt=>.agg [.d (.bool y.Neg),.d (.list (zC (eInt .u32) y.Limbs))]) ?_ h
 unfold r02_Floor
 simp only [zD,zE,nS,nA,Tryz.ntmps85,SV]
 refine .sR λe h=>?_
 simp only [seval,EMQ,zero_133,eInt]
 refine mU e (.seqK (.bind λy1 hy1=>.region λe h=>?_)) h
 simp only [seval,EMQ,fld_135_0,sz_133,ag_133,fld_135_1,eInt]
 refine SpecS.by (r01_DivMod_spec hy1) (by simp only [seval,FMQ,eInt]) ?_
 simp only [seval,EMQ,zero_133,sz_133,eInt]
 refine mU e (.sR λe h=>?_) h
 simp only [seval,EMQ,ag_133,sz_133,eInt]
 refine mU e (.ret λe h=>?_) h
 cases h
 simp only [seval,FMQ,eInt,Tryz.results85,ag_133,sz_133]
def r06_within (a0 : ApiInt) : Option (Int × Bool) := bindO (r01_Int64 a0) λ(y1 : Int × Bool)=>some (y1.1,y1.2 && ((decide (y1.1 ≥ (-10000000))) && (decide (y1.1 ≤ 10000000))))
theorem r06_within_spec {a0 : ApiInt} {y : Int × Bool} (h : r06_within a0 = some y) : Spec gP 84 [.agg [.d (.bool a0.Neg),.d (.list (zC (eInt .u32) a0.Limbs))]] (.tuple [.d (.int .i64 y.1),.d (.bool y.2)]) := by
 refine spec_mir Tryz.func84 rfl (by kernel_rfl) (by kernel_rfl) (λy : Int × Bool=>.tuple [.d (.int .i64 y.1),.d (.bool y.2)]) ?_ h
 unfold r06_within
 simp only [zD,zE,nS,nA,Tryz.ntmps84,SV]
 refine .sR λe h=>?_
 simp only [seval,EMQ,eInt]
 refine mU e (.seqK (.bind λy1 hy1=>.region λe h=>?_)) h
 simp only [seval,EMQ,ag_133,sz_133,eInt]
 refine SpecS.by (r01_Int64_spec hy1) (by simp only [seval,FMQ,eInt]) ?_
 simp only [seval,EMQ,eInt]
 refine mU e (.seqK (.joinV ([U,U,.d (.int .i64 y1.1),.d (.bool (y1.2 && ((decide (y1.1 ≥ (-10000000))) && (decide (y1.1 ≤ 10000000)))))] ++ us 17) ⟨[[.d (.bool a0.Neg),.d (.list (zC (eInt .u32) a0.Limbs))]],[]⟩ rfl ?_ ?_)) h
 refine SWs.region ?_
 rcases Bool.eq_false_or_eq_true (y1.2) with hb2 | hb2
 rcases Bool.eq_false_or_eq_true (decide (y1.1 ≥ (-10000000))) with hb3 | hb3
 simp only [seval,EMQ,SL,PB,hb2,hb3,eInt]
 simp only [seval,EMQ,SL,PB,hb2,hb3,eInt]
 simp only [seval,EMQ,SL,PB,hb2,eInt]
 refine Mir.toK (.ret λe h=>?_)
 cases h
 simp only [seval,FMQ,eInt,Tryz.results84]
end Go.Proofs.YtjamgiobipdfhaaGreatDoor
