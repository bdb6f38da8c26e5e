import Derived.Test.YtpdjgamdnjfmkaaGreatDoorGx
import Derived.Test.YtpdjgamdnjfmkaaGreatDoorTy
import Derived.Test.YtpdjgamdnjfmkaaGreatDoorMI
namespace Go.Proofs.YtpdjgamdnjfmkaaGreatDoor
open Go.RowKit
open Nat renaming reduceAdd → nA, reduceSub → nS, reduceMul → nM, reduceEqDiff → nE, reduceLeDiff → nL, reduceLT → nT, reduceBEq → nB
open Int renaming reduceLT → iT, reduceToNat → iN, reduceEq → iE
set_option linter.unusedVariables false
set_option linter.unusedSimpArgs false
set_option maxRecDepth 100000
set_option maxHeartbeats 8000000
structure ApiRat where
 Num : ApiInt
 Den : ApiInt
 deriving DecidableEq
def encApiRat (x : ApiRat) : List D := [.bool x.Num.Neg, .list (List.map (eInt .u32) x.Num.Limbs), .bool x.Den.Neg, .list (List.map (eInt .u32) x.Den.Limbs)]
theorem ENMQ : type_of% (@encApiRat.eq_1) := @encApiRat.eq_1
theorem EMQ : type_of% (And.intro @SE <| @ENMQ) := And.intro @SE <| @ENMQ
theorem FMQ : type_of% (And.intro @SF <| @ENMQ) := And.intro @SF <| @ENMQ
def r02_unit  : Option ApiInt := bindO (r01_FromInt64 1) fun (y1 : ApiInt) => some y1
theorem r02_unit_spec  {y : ApiInt} (h : r02_unit = some y) : Spec gP 47 [] (.agg [.d (.bool y.Neg), .d (.list (List.map (eInt .u32) y.Limbs))]) := by
 refine spec_mir Tryz.func47 rfl (by kernel_rfl) (by kernel_rfl) (fun y : ApiInt => .agg [.d (.bool y.Neg), .d (.list (List.map (eInt .u32) y.Limbs))]) ?_ h
 unfold r02_unit
 simp only [List.replicate, List.length, nS, nA, Tryz.ntmps47, SV]
 refine .sR fun e h=>?_
 simp only [seval,EMQ,zero_51]
 refine mU e (.seqK (.bind fun y1 hy1=>.region fun e h=>?_)) h
 simp only [seval,EMQ]
 refine SpecS.by (r01_FromInt64_spec hy1) (by simp only [seval,FMQ]) ?_
 simp only [seval,EMQ,sz_51]
 refine mU e (.ret fun e h=>?_) h
 cases h
 simp only [seval,FMQ,Tryz.results47,ag_51,sz_51]
def r02_FromInt (a0 : ApiInt) : Option ApiRat := bindO (r02_unit ) fun (y1 : ApiInt) => some (ApiRat.mk a0 y1)
theorem r02_FromInt_spec {a0 : ApiInt} {y : ApiRat} (h : r02_FromInt a0 = some y) : Spec gP 57 [.agg [.d (.bool a0.Neg), .d (.list (List.map (eInt .u32) a0.Limbs))]] (.agg [.d (.bool y.Num.Neg), .d (.list (List.map (eInt .u32) y.Num.Limbs)), .d (.bool y.Den.Neg), .d (.list (List.map (eInt .u32) y.Den.Limbs))]) := by
 refine spec_mir Tryz.func57 rfl (by kernel_rfl) (by kernel_rfl) (fun y : ApiRat => .agg [.d (.bool y.Num.Neg), .d (.list (List.map (eInt .u32) y.Num.Limbs)), .d (.bool y.Den.Neg), .d (.list (List.map (eInt .u32) y.Den.Limbs))]) ?_ h
 unfold r02_FromInt
 simp only [List.replicate, List.length, nS, nA, Tryz.ntmps57, SV]
 refine .sR fun e h=>?_
 simp only [seval,EMQ,zero_53,eInt]
 refine mU e (.seqK (.bind fun y1 hy1=>.regionD [] (by kernel_rfl) fun e h=>?_)) h
 simp only [seval,EMQ,SB,ag_51,sz_51,eInt]
 refine Spec.by (r02_unit_spec hy1) (rfl) ?_
 simp only [seval,EMQ,SB,zero_53,pl_53,sz_53,eInt]
 refine mU e (.ret fun e h=>?_) h
 cases h
 simp only [seval,FMQ,eInt,Tryz.results57,ag_53,sz_53]
def r02_Same (a0 : ApiRat) (a1 : ApiRat) : Option Bool := bindO (bindO (r01_Same a0.Num a1.Num) fun (y1 : Bool) => if y1 = true then bindO (r01_Same a0.Den a1.Den) fun (y2 : Bool) => some y2 else some false) fun (v1 : Bool) => some v1
theorem r02_Same_spec {a0 : ApiRat} {a1 : ApiRat} {y : Bool} (h : r02_Same a0 a1 = some y) : Spec gP 17 [.agg [.d (.bool a0.Num.Neg), .d (.list (List.map (eInt .u32) a0.Num.Limbs)), .d (.bool a0.Den.Neg), .d (.list (List.map (eInt .u32) a0.Den.Limbs))], .agg [.d (.bool a1.Num.Neg), .d (.list (List.map (eInt .u32) a1.Num.Limbs)), .d (.bool a1.Den.Neg), .d (.list (List.map (eInt .u32) a1.Den.Limbs))]] (.d (.bool y)) := by
 refine spec_mir Tryz.func17 rfl (by kernel_rfl) (by kernel_rfl) (fun y : Bool => .d (.bool y)) ?_ h
 unfold r02_Same
 simp only [List.replicate, List.length, nS, nA, Tryz.ntmps17, SV]
 refine .sR fun e h=>?_
 simp only [seval,EMQ,eInt]
 refine mU e (.seqK (Mir.joinO (fun v1 : Bool=>([U,U,U,U,.d (.bool v1)] ++ us 12)) (fun v1=>⟨[[.d (.bool a0.Num.Neg),.d (.list (List.map (eInt .u32) a0.Num.Limbs)),.d (.bool a0.Den.Neg),.d (.list (List.map (eInt .u32) a0.Den.Limbs))],[.d (.bool a1.Num.Neg),.d (.list (List.map (eInt .u32) a1.Num.Limbs)),.d (.bool a1.Den.Neg),.d (.list (List.map (eInt .u32) a1.Den.Limbs))]],[]⟩) (fun _=>rfl) ?_ ?_)) h
 refine .bind fun y1 hy1=>.ite (fun hb2=>?_) (fun hb2=>?_)
 refine .bind fun y2 hy3=>.region fun e h=>?_
 simp only [seval,EMQ,fld_53_0,sz_51,ag_51,eInt,hb2]
 refine SpecS.by (r01_Same_spec hy1) (by simp only [seval,FMQ,eInt,hb2]) ?_
 simp only [seval,EMQ,fld_53_1,sz_51,ag_51,eInt,hb2]
 refine SpecS.by (r01_Same_spec hy3) (by simp only [seval,FMQ,eInt,hb2]) ?_
 simp only [seval,EMQ,eInt,hb2]
 cases h
 simp only [seval,FMQ,eInt,hb2]
 refine .region fun e h=>?_
 simp only [seval,EMQ,fld_53_0,sz_51,ag_51,eInt,hb2]
 refine SpecS.by (r01_Same_spec hy1) (by simp only [seval,FMQ,eInt,hb2]) ?_
 simp only [seval,EMQ,eInt,hb2]
 cases h
 simp only [seval,FMQ,eInt,hb2]
 intro v1
 refine Mir.toK (.ret fun e h=>?_)
 cases h
 simp only [seval,FMQ,eInt,Tryz.results17]
def r02_FromInt64 (a0 : Int) : Option ApiRat := bindO (r01_FromInt64 a0) fun (y1 : ApiInt) => bindO (r02_unit ) fun (y2 : ApiInt) => some (ApiRat.mk y1 y2)
theorem r02_FromInt64_spec {a0 : Int} {y : ApiRat} (h : r02_FromInt64 a0 = some y) : Spec gP 20 [.d (.int .i64 a0)] (.agg [.d (.bool y.Num.Neg), .d (.list (List.map (eInt .u32) y.Num.Limbs)), .d (.bool y.Den.Neg), .d (.list (List.map (eInt .u32) y.Den.Limbs))]) := by
 refine spec_mir Tryz.func20 rfl (by kernel_rfl) (by kernel_rfl) (fun y : ApiRat => .agg [.d (.bool y.Num.Neg), .d (.list (List.map (eInt .u32) y.Num.Limbs)), .d (.bool y.Den.Neg), .d (.list (List.map (eInt .u32) y.Den.Limbs))]) ?_ h
 unfold r02_FromInt64
 simp only [List.replicate, List.length, nS, nA, Tryz.ntmps20, SV]
 refine .sR fun e h=>?_
 simp only [seval,EMQ,zero_53]
 refine mU e (.seqK (.bind fun y1 hy1=>.bind fun y2 hy2=>.region fun e h=>?_)) h
 simp only [seval,EMQ]
 refine SpecS.by (r01_FromInt64_spec hy1) (by simp only [seval,FMQ]) ?_
 simp only [seval,EMQ]
 refine SpecS.by (r02_unit_spec hy2) (rfl) ?_
 simp only [seval,EMQ,zero_53,pl_53,sz_53]
 refine mU e (.ret fun e h=>?_) h
 cases h
 simp only [seval,FMQ,Tryz.results20,ag_53,sz_53]
def r02_Of (a0 : ApiInt) (a1 : ApiInt) : Option ApiRat := bindO (r01_Sign a1) fun (y1 : Int) => bindO (if (decide (y1 < 0)) = true then bindO (r01_Neg a0) fun (y2 : ApiInt) => bindO (r01_Neg a1) fun (y3 : ApiInt) => some (y2, y3) else some (a0, a1)) fun (v1 : ApiInt × ApiInt) => bindO (r01_GCD v1.1 v1.2) fun (y4 : ApiInt) => bindO (r01_DivMod v1.1 y4) fun (y5 : ApiInt × ApiInt × Int) => bindO (r01_DivMod v1.2 y4) fun (y6 : ApiInt × ApiInt × Int) => some (ApiRat.mk y5.1 y6.1)
theorem r02_Of_spec {a0 : ApiInt} {a1 : ApiInt} {y : ApiRat} (h : r02_Of a0 a1 = some y) : Spec gP 70 [.agg [.d (.bool a0.Neg), .d (.list (List.map (eInt .u32) a0.Limbs))], .agg [.d (.bool a1.Neg), .d (.list (List.map (eInt .u32) a1.Limbs))]] (.agg [.d (.bool y.Num.Neg), .d (.list (List.map (eInt .u32) y.Num.Limbs)), .d (.bool y.Den.Neg), .d (.list (List.map (eInt .u32) y.Den.Limbs))]) := by
 refine spec_mir Tryz.func70 rfl (by kernel_rfl) (by kernel_rfl) (fun y : ApiRat => .agg [.d (.bool y.Num.Neg), .d (.list (List.map (eInt .u32) y.Num.Limbs)), .d (.bool y.Den.Neg), .d (.list (List.map (eInt .u32) y.Den.Limbs))]) ?_ h
 unfold r02_Of
 simp only [List.replicate, List.length, nS, nA, Tryz.ntmps70, SV]
 refine .sR fun e h=>?_
 simp only [seval,EMQ,zero_53,eInt]
 refine mU e (.seqK (.seqK (.bind fun y1 hy1=>.region fun e h=>?_))) h
 simp only [seval,EMQ,ag_51,sz_51,eInt]
 refine SpecS.by (r01_Sign_spec hy1) (by simp only [seval,FMQ,eInt]) ?_
 simp only [seval,EMQ,eInt]
 refine mU e (Mir.joinO (fun v1 : ApiInt × ApiInt=>([U,U,.ptr 0 0,.ptr 1 0,.ptr 2 0] ++ us 34)) (fun v1=>⟨[[.d (.bool v1.1.Neg),.d (.list (List.map (eInt .u32) v1.1.Limbs))],[.d (.bool v1.2.Neg),.d (.list (List.map (eInt .u32) v1.2.Limbs))],[.d (.bool false),.nil,.d (.bool false),.nil]],[]⟩) (fun _=>rfl) ?_ ?_) h
 refine .cond rfl (fun hb5=>?_) (fun hb5=>?_)
 refine .bind fun y2 hy6=>.bind fun y3 hy7=>.regionD [] (by kernel_rfl) fun e h=>?_
 simp only [seval,EMQ,SB,ag_51,sz_51,eInt]
 refine Spec.by (r01_Neg_spec hy6) (by simp only [seval,FMQ,eInt]) ?_
 simp only [seval,EMQ,SB,ag_51,sz_51,eInt]
 refine Spec.by (r01_Neg_spec hy7) (by simp only [seval,FMQ,eInt]) ?_
 simp only [seval,EMQ,SB,sz_51,eInt]
 cases h
 simp only [seval,FMQ,eInt,Tryz.results70,ag_53,sz_53]
 refine .skip fun e h=>?_
 cases h
 simp only [seval,FMQ,eInt,Tryz.results70,ag_53,sz_53]
 intro v1
 refine Mir.toK (.seqK (.bind fun y4 hy8=>.region fun e h=>?_))
 simp only [seval,EMQ,ag_51,sz_51,eInt]
 refine SpecS.by (r01_GCD_spec hy8) (by simp only [seval,FMQ,eInt]) ?_
 simp only [seval,EMQ,zero_51,sz_51,eInt]
 refine mU e (.seqK (.bind fun y5 hy9=>.region fun e h=>?_)) h
 simp only [seval,EMQ,ag_51,sz_51,eInt]
 refine SpecS.by (r01_DivMod_spec hy9) (by simp only [seval,FMQ,eInt]) ?_
 simp only [seval,EMQ,zero_51,sz_51,eInt]
 refine mU e (.seqK (.bind fun y6 hy10=>.region fun e h=>?_)) h
 simp only [seval,EMQ,ag_51,sz_51,eInt]
 refine SpecS.by (r01_DivMod_spec hy10) (by simp only [seval,FMQ,eInt]) ?_
 simp only [seval,EMQ,zero_51,sz_51,eInt]
 refine mU e (.sR fun e h=>?_) h
 simp only [seval,EMQ,ag_51,sz_51,zero_53,pl_53,sz_53,eInt]
 refine mU e (.ret fun e h=>?_) h
 cases h
 simp only [seval,FMQ,eInt,Tryz.results70,ag_53,sz_53]
def r02_Mul (a0 : ApiRat) (a1 : ApiRat) : Option ApiRat := bindO (r01_Mul a0.Num a1.Num) fun (y1 : ApiInt) => bindO (r01_Mul a0.Den a1.Den) fun (y2 : ApiInt) => bindO (r02_Of y1 y2) fun (y3 : ApiRat) => some y3
theorem r02_Mul_spec {a0 : ApiRat} {a1 : ApiRat} {y : ApiRat} (h : r02_Mul a0 a1 = some y) : Spec gP 41 [.agg [.d (.bool a0.Num.Neg), .d (.list (List.map (eInt .u32) a0.Num.Limbs)), .d (.bool a0.Den.Neg), .d (.list (List.map (eInt .u32) a0.Den.Limbs))], .agg [.d (.bool a1.Num.Neg), .d (.list (List.map (eInt .u32) a1.Num.Limbs)), .d (.bool a1.Den.Neg), .d (.list (List.map (eInt .u32) a1.Den.Limbs))]] (.agg [.d (.bool y.Num.Neg), .d (.list (List.map (eInt .u32) y.Num.Limbs)), .d (.bool y.Den.Neg), .d (.list (List.map (eInt .u32) y.Den.Limbs))]) := by
 refine spec_mir Tryz.func41 rfl (by kernel_rfl) (by kernel_rfl) (fun y : ApiRat => .agg [.d (.bool y.Num.Neg), .d (.list (List.map (eInt .u32) y.Num.Limbs)), .d (.bool y.Den.Neg), .d (.list (List.map (eInt .u32) y.Den.Limbs))]) ?_ h
 unfold r02_Mul
 simp only [List.replicate, List.length, nS, nA, Tryz.ntmps41, SV]
 refine .sR fun e h=>?_
 simp only [seval,EMQ,zero_53,eInt]
 refine mU e (.seqK (.bind fun y1 hy1=>.bind fun y2 hy2=>.bind fun y3 hy3=>.regionD [] (by kernel_rfl) fun e h=>?_)) h
 simp only [seval,EMQ,SB,fld_53_0,sz_51,ag_51,eInt]
 refine Spec.by (r01_Mul_spec hy1) (by simp only [seval,FMQ,eInt]) ?_
 simp only [seval,EMQ,SB,fld_53_1,sz_51,ag_51,eInt]
 refine Spec.by (r01_Mul_spec hy2) (by simp only [seval,FMQ,eInt]) ?_
 simp only [seval,EMQ,SB,eInt]
 refine Spec.by (r02_Of_spec hy3) (by simp only [seval,FMQ,eInt]) ?_
 simp only [seval,EMQ,SB,sz_53,eInt]
 refine mU e (.ret fun e h=>?_) h
 cases h
 simp only [seval,FMQ,eInt,Tryz.results41,ag_53,sz_53]
def r06_Power (a0 : Int) : Option ApiRat := bindO (r02_FromInt64 1) fun (y1 : ApiRat) => bindO (loopX (fun (v1 : Int × ApiRat) => if (decide (v1.1 < a0)) = true then bindO (r02_FromInt64 10) fun (y2 : ApiRat) => bindO (r02_Mul v1.2 y2) fun (y3 : ApiRat) => some (.go (IntKind.i64.wrap (v1.1 + 1), y3)) else some (.ret v1.2)) fuel (0, ApiRat.mk y1.Num y1.Den)) fun (v2 : ApiRat) => some v2
theorem r06_Power_spec {a0 : Int} {y : ApiRat} (h : r06_Power a0 = some y) : Spec gP 58 [.d (.int .i64 a0)] (.agg [.d (.bool y.Num.Neg), .d (.list (List.map (eInt .u32) y.Num.Limbs)), .d (.bool y.Den.Neg), .d (.list (List.map (eInt .u32) y.Den.Limbs))]) := by
 refine spec_mir Tryz.func58 rfl (by kernel_rfl) (by kernel_rfl) (fun y : ApiRat => .agg [.d (.bool y.Num.Neg), .d (.list (List.map (eInt .u32) y.Num.Limbs)), .d (.bool y.Den.Neg), .d (.list (List.map (eInt .u32) y.Den.Limbs))]) ?_ h
 unfold r06_Power
 simp only [List.replicate, List.length, nS, nA, Tryz.ntmps58, SV]
 refine .sR fun e h=>?_
 simp only [seval,EMQ,zero_53]
 refine mU e (.seqK (.bind fun y1 hy1=>.region fun e h=>?_)) h
 simp only [seval,EMQ]
 refine SpecS.by (r02_FromInt64_spec hy1) (by simp only [seval,FMQ]) ?_
 simp only [seval,EMQ,zero_53,sz_53]
 refine mU e (.seqK (.sR fun e h=>?_)) h
 simp only [seval,EMQ]
 refine mU e (Mir.joinO (fun v2 : ApiRat=>([U,U,.ptr 0 0,.ptr 1 0] ++ us 11)) (fun v2=>⟨[[.d (.bool false),.nil,.d (.bool false),.nil],[.d (.bool v2.Num.Neg),.d (.list (List.map (eInt .u32) v2.Num.Limbs)),.d (.bool v2.Den.Neg),.d (.list (List.map (eInt .u32) v2.Den.Limbs))]],[]⟩) (fun _=>rfl) ?_ ?_) h
 refine .block (Mir.loop (fun v1 : Int × ApiRat=>([.d (.int .i64 a0),U,.ptr 0 0,.ptr 1 0,.d (.int .i64 v1.1)] ++ us 10)) (fun v1=>⟨[[.d (.bool false),.nil,.d (.bool false),.nil],[.d (.bool v1.2.Num.Neg),.d (.list (List.map (eInt .u32) v1.2.Num.Limbs)),.d (.bool v1.2.Den.Neg),.d (.list (List.map (eInt .u32) v1.2.Den.Limbs))]],[]⟩) (fun _=>rfl) (by simp only [seval,FMQ]) (by simp only [seval,FMQ]) fun v1=>.seqK (.sR fun e h=>?_))
 simp only [seval,EMQ]
 refine mU e (.cond rfl (fun hb33=>?_) (fun hb33=>?_)) h
 refine .skip (Mir.toK (.seqK (.block (.bind fun y2 hy36=>.bind fun y3 hy37=>.regionD [] (by kernel_rfl) fun e h=>?_))))
 simp only [seval,EMQ,SB,ag_53,sz_53]
 refine Spec.by (r02_FromInt64_spec hy36) (by simp only [seval,FMQ]) ?_
 simp only [seval,EMQ,SB]
 refine Spec.by (r02_Mul_spec hy37) (by simp only [seval,FMQ]) ?_
 simp only [seval,EMQ,SB,sz_53]
 refine mU e (.region fun e h=>?_) h
 simp only [seval,EMQ]
 cases h
 simp only [seval,FMQ,Tryz.results58,ag_53,sz_53]
 refine .exit fun e h=>?_
 cases h
 simp only [seval,FMQ,Tryz.results58,ag_53,sz_53]
 intro v2
 refine Mir.toK (.sR fun e h=>?_)
 simp only [seval,EMQ,ag_53,sz_53]
 refine mU e (.ret fun e h=>?_) h
 cases h
 simp only [seval,FMQ,Tryz.results58,ag_53,sz_53]
def r02_Make (a0 : ApiInt) (a1 : ApiInt) : Option (ApiRat × Int) := bindO (r01_Sign a1) fun (y1 : Int) => if (y1 == 0) = true then some (ApiRat.mk (ApiInt.mk false []) (ApiInt.mk false []), 6) else bindO (r02_Of a0 a1) fun (y2 : ApiRat) => some (y2, 0)
theorem r02_Make_spec {a0 : ApiInt} {a1 : ApiInt} {y : ApiRat × Int} (h : r02_Make a0 a1 = some y) : Spec gP 112 [.agg [.d (.bool a0.Neg), .d (.list (List.map (eInt .u32) a0.Limbs))], .agg [.d (.bool a1.Neg), .d (.list (List.map (eInt .u32) a1.Limbs))]] (.tuple [.agg [.d (.bool y.1.Num.Neg), .d (.list (List.map (eInt .u32) y.1.Num.Limbs)), .d (.bool y.1.Den.Neg), .d (.list (List.map (eInt .u32) y.1.Den.Limbs))], .d (.int .i64 y.2)]) := by
 refine spec_mir Tryz.func112 rfl (by kernel_rfl) (by kernel_rfl) (fun y : ApiRat × Int => .tuple [.agg [.d (.bool y.1.Num.Neg), .d (.list (List.map (eInt .u32) y.1.Num.Limbs)), .d (.bool y.1.Den.Neg), .d (.list (List.map (eInt .u32) y.1.Den.Limbs))], .d (.int .i64 y.2)]) ?_ h
 unfold r02_Make
 simp only [List.replicate, List.length, nS, nA, Tryz.ntmps112, SV]
 refine .sR fun e h=>?_
 simp only [seval,EMQ,zero_53,eInt]
 refine mU e (.seqK (.seqK (.bind fun y1 hy1=>.region fun e h=>?_))) h
 simp only [seval,EMQ,ag_51,sz_51,eInt]
 refine SpecS.by (r01_Sign_spec hy1) (by simp only [seval,FMQ,eInt]) ?_
 simp only [seval,EMQ,eInt]
 refine mU e (.cond rfl (fun hb3=>?_) (fun hb3=>?_)) h
 refine .sR fun e h=>?_
 simp only [seval,EMQ,zero_53,pl_53,sz_53,eInt]
 refine mU e (.ret fun e h=>?_) h
 cases h
 simp only [seval,FMQ,eInt,Tryz.results112,ag_53,sz_53]
 refine .skip (Mir.toK (.seqK (.bind fun y2 hy4=>.region fun e h=>?_)))
 simp only [seval,EMQ,ag_51,sz_51,eInt]
 refine SpecS.by (r02_Of_spec hy4) (by simp only [seval,FMQ,eInt]) ?_
 simp only [seval,EMQ,sz_53,eInt]
 refine mU e (.ret fun e h=>?_) h
 cases h
 simp only [seval,FMQ,eInt,Tryz.results112,ag_53,sz_53]
def r02_Div (a0 : ApiRat) (a1 : ApiRat) : Option (ApiRat × Int) := bindO (r01_Mul a0.Num a1.Den) fun (y1 : ApiInt) => bindO (r01_Mul a0.Den a1.Num) fun (y2 : ApiInt) => bindO (r02_Make y1 (ApiInt.mk y2.Neg y2.Limbs)) fun (y3 : ApiRat × Int) => some (y3.1, y3.2)
theorem r02_Div_spec {a0 : ApiRat} {a1 : ApiRat} {y : ApiRat × Int} (h : r02_Div a0 a1 = some y) : Spec gP 82 [.agg [.d (.bool a0.Num.Neg), .d (.list (List.map (eInt .u32) a0.Num.Limbs)), .d (.bool a0.Den.Neg), .d (.list (List.map (eInt .u32) a0.Den.Limbs))], .agg [.d (.bool a1.Num.Neg), .d (.list (List.map (eInt .u32) a1.Num.Limbs)), .d (.bool a1.Den.Neg), .d (.list (List.map (eInt .u32) a1.Den.Limbs))]] (.tuple [.agg [.d (.bool y.1.Num.Neg), .d (.list (List.map (eInt .u32) y.1.Num.Limbs)), .d (.bool y.1.Den.Neg), .d (.list (List.map (eInt .u32) y.1.Den.Limbs))], .d (.int .i64 y.2)]) := by
 refine spec_mir Tryz.func82 rfl (by kernel_rfl) (by kernel_rfl) (fun y : ApiRat × Int => .tuple [.agg [.d (.bool y.1.Num.Neg), .d (.list (List.map (eInt .u32) y.1.Num.Limbs)), .d (.bool y.1.Den.Neg), .d (.list (List.map (eInt .u32) y.1.Den.Limbs))], .d (.int .i64 y.2)]) ?_ h
 unfold r02_Div
 simp only [List.replicate, List.length, nS, nA, Tryz.ntmps82, SV]
 refine .sR fun e h=>?_
 simp only [seval,EMQ,zero_53,eInt]
 refine mU e (.seqK (.bind fun y1 hy1=>.bind fun y2 hy2=>.bind fun y3 hy3=>.regionD [] (by kernel_rfl) fun e h=>?_)) h
 simp only [seval,EMQ,SB,fld_53_0,sz_51,ag_51,fld_53_1,eInt]
 refine Spec.by (r01_Mul_spec hy1) (by simp only [seval,FMQ,eInt]) ?_
 simp only [seval,EMQ,SB,fld_53_1,sz_51,ag_51,fld_53_0,eInt]
 refine Spec.by (r01_Mul_spec hy2) (by simp only [seval,FMQ,eInt]) ?_
 simp only [seval,EMQ,SB,eInt]
 refine Spec.by (r02_Make_spec hy3) (by simp only [seval,FMQ,eInt]) ?_
 simp only [seval,EMQ,SB,sz_53,eInt]
 refine mU e (.ret fun e h=>?_) h
 cases h
 simp only [seval,FMQ,eInt,Tryz.results82,ag_53,sz_53]
def r02_Over (a0 : ApiRat) (a1 : ApiRat) : Option ApiRat := bindO (r02_Div (ApiRat.mk a0.Num a0.Den) (ApiRat.mk a1.Num a1.Den)) fun (y1 : ApiRat × Int) => some y1.1
theorem r02_Over_spec {a0 : ApiRat} {a1 : ApiRat} {y : ApiRat} (h : r02_Over a0 a1 = some y) : Spec gP 56 [.agg [.d (.bool a0.Num.Neg), .d (.list (List.map (eInt .u32) a0.Num.Limbs)), .d (.bool a0.Den.Neg), .d (.list (List.map (eInt .u32) a0.Den.Limbs))], .agg [.d (.bool a1.Num.Neg), .d (.list (List.map (eInt .u32) a1.Num.Limbs)), .d (.bool a1.Den.Neg), .d (.list (List.map (eInt .u32) a1.Den.Limbs))]] (.agg [.d (.bool y.Num.Neg), .d (.list (List.map (eInt .u32) y.Num.Limbs)), .d (.bool y.Den.Neg), .d (.list (List.map (eInt .u32) y.Den.Limbs))]) := by
 refine spec_mir Tryz.func56 rfl (by kernel_rfl) (by kernel_rfl) (fun y : ApiRat => .agg [.d (.bool y.Num.Neg), .d (.list (List.map (eInt .u32) y.Num.Limbs)), .d (.bool y.Den.Neg), .d (.list (List.map (eInt .u32) y.Den.Limbs))]) ?_ h
 unfold r02_Over
 simp only [List.replicate, List.length, nS, nA, Tryz.ntmps56, SV]
 refine .sR fun e h=>?_
 simp only [seval,EMQ,zero_53,eInt]
 refine mU e (.seqK (.bind fun y1 hy1=>.region fun e h=>?_)) h
 simp only [seval,EMQ,ag_53,sz_53,eInt]
 refine SpecS.by (r02_Div_spec hy1) (by simp only [seval,FMQ,eInt]) ?_
 simp only [seval,EMQ,zero_53,sz_53,eInt]
 refine mU e (.sR fun e h=>?_) h
 simp only [seval,EMQ,ag_53,sz_53,eInt]
 refine mU e (.ret fun e h=>?_) h
 cases h
 simp only [seval,FMQ,eInt,Tryz.results56,ag_53,sz_53]
def ra_unit  : Option ApiInt := bindO (it_FromInt64 1) fun (y1 : ApiInt) => some y1
theorem ra_unit_spec  {y : ApiInt} (h : ra_unit = some y) : Spec gP 95 [] (.agg [.d (.bool y.Neg), .d (.list (List.map (eInt .u32) y.Limbs))]) := by
 refine spec_mir Tryz.func95 rfl (by kernel_rfl) (by kernel_rfl) (fun y : ApiInt => .agg [.d (.bool y.Neg), .d (.list (List.map (eInt .u32) y.Limbs))]) ?_ h
 unfold ra_unit
 simp only [List.replicate, List.length, nS, nA, Tryz.ntmps95, SV]
 refine .sR fun e h=>?_
 simp only [seval,EMQ,zero_51]
 refine mU e (.seqK (.bind fun y1 hy1=>.region fun e h=>?_)) h
 simp only [seval,EMQ]
 refine SpecS.by (it_FromInt64_spec hy1) (by simp only [seval,FMQ]) ?_
 simp only [seval,EMQ,sz_51]
 refine mU e (.ret fun e h=>?_) h
 cases h
 simp only [seval,FMQ,Tryz.results95,ag_51,sz_51]
def ra_exact (a0 : ApiInt) (a1 : ApiInt) : Option ApiInt := bindO (it_DivMod a0 a1) fun (y1 : ApiInt × ApiInt × Int) => some y1.1
theorem ra_exact_spec {a0 : ApiInt} {a1 : ApiInt} {y : ApiInt} (h : ra_exact a0 a1 = some y) : Spec gP 96 [.agg [.d (.bool a0.Neg), .d (.list (List.map (eInt .u32) a0.Limbs))], .agg [.d (.bool a1.Neg), .d (.list (List.map (eInt .u32) a1.Limbs))]] (.agg [.d (.bool y.Neg), .d (.list (List.map (eInt .u32) y.Limbs))]) := by
 refine spec_mir Tryz.func96 rfl (by kernel_rfl) (by kernel_rfl) (fun y : ApiInt => .agg [.d (.bool y.Neg), .d (.list (List.map (eInt .u32) y.Limbs))]) ?_ h
 unfold ra_exact
 simp only [List.replicate, List.length, nS, nA, Tryz.ntmps96, SV]
 refine .sR fun e h=>?_
 simp only [seval,EMQ,zero_51,eInt]
 refine mU e (.seqK (.bind fun y1 hy1=>.region fun e h=>?_)) h
 simp only [seval,EMQ,ag_51,sz_51,eInt]
 refine SpecS.by (it_DivMod_spec hy1) (by simp only [seval,FMQ,eInt]) ?_
 simp only [seval,EMQ,zero_51,sz_51,eInt]
 refine mU e (.sR fun e h=>?_) h
 simp only [seval,EMQ,ag_51,sz_51,eInt]
 refine mU e (.ret fun e h=>?_) h
 cases h
 simp only [seval,FMQ,eInt,Tryz.results96,ag_51,sz_51]
def ra_reduce (a0 : ApiInt) (a1 : ApiInt) : Option ApiRat := bindO (it_Sign a1) fun (y1 : Int) => bindO (if (decide (y1 < 0)) = true then bindO (it_Neg a0) fun (y2 : ApiInt) => bindO (it_Neg a1) fun (y3 : ApiInt) => some (y2, y3) else some (a0, a1)) fun (v1 : ApiInt × ApiInt) => bindO (it_GCD v1.1 v1.2) fun (y4 : ApiInt) => bindO (ra_unit ) fun (y5 : ApiInt) => bindO (it_Cmp y4 y5) fun (y6 : Int) => bindO (if (y6 != 0) = true then bindO (ra_exact v1.1 y4) fun (y7 : ApiInt) => bindO (ra_exact v1.2 y4) fun (y8 : ApiInt) => some (y7, y8) else some (v1.1, v1.2)) fun (v2 : ApiInt × ApiInt) => some (ApiRat.mk v2.1 v2.2)
theorem ra_reduce_spec {a0 : ApiInt} {a1 : ApiInt} {y : ApiRat} (h : ra_reduce a0 a1 = some y) : Spec gP 66 [.agg [.d (.bool a0.Neg), .d (.list (List.map (eInt .u32) a0.Limbs))], .agg [.d (.bool a1.Neg), .d (.list (List.map (eInt .u32) a1.Limbs))]] (.agg [.d (.bool y.Num.Neg), .d (.list (List.map (eInt .u32) y.Num.Limbs)), .d (.bool y.Den.Neg), .d (.list (List.map (eInt .u32) y.Den.Limbs))]) := by
 refine spec_mir Tryz.func66 rfl (by kernel_rfl) (by kernel_rfl) (fun y : ApiRat => .agg [.d (.bool y.Num.Neg), .d (.list (List.map (eInt .u32) y.Num.Limbs)), .d (.bool y.Den.Neg), .d (.list (List.map (eInt .u32) y.Den.Limbs))]) ?_ h
 unfold ra_reduce
 simp only [List.replicate, List.length, nS, nA, Tryz.ntmps66, SV]
 refine .sR fun e h=>?_
 simp only [seval,EMQ,zero_53,eInt]
 refine mU e (.seqK (.seqK (.bind fun y1 hy1=>.region fun e h=>?_))) h
 simp only [seval,EMQ,ag_51,sz_51,eInt]
 refine SpecS.by (it_Sign_spec hy1) (by simp only [seval,FMQ,eInt]) ?_
 simp only [seval,EMQ,eInt]
 refine mU e (Mir.joinO (fun v1 : ApiInt × ApiInt=>([U,U,.ptr 0 0,.ptr 1 0,.ptr 2 0] ++ us 24)) (fun v1=>⟨[[.d (.bool v1.1.Neg),.d (.list (List.map (eInt .u32) v1.1.Limbs))],[.d (.bool v1.2.Neg),.d (.list (List.map (eInt .u32) v1.2.Limbs))],[.d (.bool false),.nil,.d (.bool false),.nil]],[]⟩) (fun _=>rfl) ?_ ?_) h
 refine .cond rfl (fun hb5=>?_) (fun hb5=>?_)
 refine .bind fun y2 hy6=>.bind fun y3 hy7=>.regionD [] (by kernel_rfl) fun e h=>?_
 simp only [seval,EMQ,SB,ag_51,sz_51,eInt]
 refine Spec.by (it_Neg_spec hy6) (by simp only [seval,FMQ,eInt]) ?_
 simp only [seval,EMQ,SB,ag_51,sz_51,eInt]
 refine Spec.by (it_Neg_spec hy7) (by simp only [seval,FMQ,eInt]) ?_
 simp only [seval,EMQ,SB,sz_51,eInt]
 cases h
 simp only [seval,FMQ,eInt,Tryz.results66,ag_53,sz_53]
 refine .skip fun e h=>?_
 cases h
 simp only [seval,FMQ,eInt,Tryz.results66,ag_53,sz_53]
 intro v1
 refine Mir.toK (.seqK (.seqK (.bind fun y4 hy8=>.region fun e h=>?_)))
 simp only [seval,EMQ,ag_51,sz_51,eInt]
 refine SpecS.by (it_GCD_spec hy8) (by simp only [seval,FMQ,eInt]) ?_
 simp only [seval,EMQ,zero_51,sz_51,eInt]
 refine mU e (.seqK (.bind fun y5 hy9=>.bind fun y6 hy10=>.regionD [] (by kernel_rfl) fun e h=>?_)) h
 simp only [seval,EMQ,SB,ag_51,sz_51,eInt]
 refine Spec.by (ra_unit_spec hy9) (rfl) ?_
 simp only [seval,EMQ,SB,eInt]
 refine Spec.by (it_Cmp_spec hy10) (by simp only [seval,FMQ,eInt]) ?_
 simp only [seval,EMQ,SB,eInt]
 refine mU e (Mir.joinO (fun v2 : ApiInt × ApiInt=>([U,U,.ptr 0 0,.ptr 1 0,.ptr 2 0] ++ us 24)) (fun v2=>⟨[[.d (.bool v2.1.Neg),.d (.list (List.map (eInt .u32) v2.1.Limbs))],[.d (.bool v2.2.Neg),.d (.list (List.map (eInt .u32) v2.2.Limbs))],[.d (.bool false),.nil,.d (.bool false),.nil],[.d (.bool y4.Neg),.d (.list (List.map (eInt .u32) y4.Limbs))]],[]⟩) (fun _=>rfl) ?_ ?_) h
 refine .cond rfl (fun hb14=>?_) (fun hb14=>?_)
 refine .bind fun y7 hy15=>.bind fun y8 hy16=>.regionD [] (by kernel_rfl) fun e h=>?_
 simp only [seval,EMQ,SB,ag_51,sz_51,eInt]
 refine Spec.by (ra_exact_spec hy15) (by simp only [seval,FMQ,eInt]) ?_
 simp only [seval,EMQ,SB,ag_51,sz_51,eInt]
 refine Spec.by (ra_exact_spec hy16) (by simp only [seval,FMQ,eInt]) ?_
 simp only [seval,EMQ,SB,sz_51,eInt]
 cases h
 simp only [seval,FMQ,eInt,Tryz.results66,ag_53,sz_53]
 refine .skip fun e h=>?_
 cases h
 simp only [seval,FMQ,eInt,Tryz.results66,ag_53,sz_53]
 intro v2
 refine Mir.toK (.sR fun e h=>?_)
 simp only [seval,EMQ,ag_51,sz_51,zero_53,pl_53,sz_53,eInt]
 refine mU e (.ret fun e h=>?_) h
 cases h
 simp only [seval,FMQ,eInt,Tryz.results66,ag_53,sz_53]
def ra_Make (a0 : ApiInt) (a1 : ApiInt) : Option (ApiRat × Int) := bindO (it_Sign a1) fun (y1 : Int) => if (y1 == 0) = true then some (ApiRat.mk (ApiInt.mk false []) (ApiInt.mk false []), 6) else bindO (ra_reduce a0 a1) fun (y2 : ApiRat) => some (y2, 0)
theorem ra_Make_spec {a0 : ApiInt} {a1 : ApiInt} {y : ApiRat × Int} (h : ra_Make a0 a1 = some y) : Spec gP 50 [.agg [.d (.bool a0.Neg), .d (.list (List.map (eInt .u32) a0.Limbs))], .agg [.d (.bool a1.Neg), .d (.list (List.map (eInt .u32) a1.Limbs))]] (.tuple [.agg [.d (.bool y.1.Num.Neg), .d (.list (List.map (eInt .u32) y.1.Num.Limbs)), .d (.bool y.1.Den.Neg), .d (.list (List.map (eInt .u32) y.1.Den.Limbs))], .d (.int .i64 y.2)]) := by
 refine spec_mir Tryz.func50 rfl (by kernel_rfl) (by kernel_rfl) (fun y : ApiRat × Int => .tuple [.agg [.d (.bool y.1.Num.Neg), .d (.list (List.map (eInt .u32) y.1.Num.Limbs)), .d (.bool y.1.Den.Neg), .d (.list (List.map (eInt .u32) y.1.Den.Limbs))], .d (.int .i64 y.2)]) ?_ h
 unfold ra_Make
 simp only [List.replicate, List.length, nS, nA, Tryz.ntmps50, SV]
 refine .sR fun e h=>?_
 simp only [seval,EMQ,zero_53,eInt]
 refine mU e (.seqK (.seqK (.bind fun y1 hy1=>.region fun e h=>?_))) h
 simp only [seval,EMQ,ag_51,sz_51,eInt]
 refine SpecS.by (it_Sign_spec hy1) (by simp only [seval,FMQ,eInt]) ?_
 simp only [seval,EMQ,eInt]
 refine mU e (.cond rfl (fun hb3=>?_) (fun hb3=>?_)) h
 refine .sR fun e h=>?_
 simp only [seval,EMQ,zero_53,pl_53,sz_53,eInt]
 refine mU e (.ret fun e h=>?_) h
 cases h
 simp only [seval,FMQ,eInt,Tryz.results50,ag_53,sz_53]
 refine .skip (Mir.toK (.seqK (.bind fun y2 hy4=>.region fun e h=>?_)))
 simp only [seval,EMQ,ag_51,sz_51,eInt]
 refine SpecS.by (ra_reduce_spec hy4) (by simp only [seval,FMQ,eInt]) ?_
 simp only [seval,EMQ,sz_53,eInt]
 refine mU e (.ret fun e h=>?_) h
 cases h
 simp only [seval,FMQ,eInt,Tryz.results50,ag_53,sz_53]
def dc_power (a0 : Int) : Option ApiInt := bindO (it_FromInt64 1) fun (y1 : ApiInt) => bindO (it_FromInt64 10) fun (y2 : ApiInt) => bindO (loopX (fun (v1 : Int × ApiInt) => if (decide (v1.1 < a0)) = true then bindO (it_Mul v1.2 y2) fun (y3 : ApiInt) => some (.go (IntKind.i64.wrap (v1.1 + 1), y3)) else some (.ret v1.2)) fuel (0, y1)) fun (v2 : ApiInt) => some v2
theorem dc_power_spec {a0 : Int} {y : ApiInt} (h : dc_power a0 = some y) : Spec gP 51 [.d (.int .i64 a0)] (.agg [.d (.bool y.Neg), .d (.list (List.map (eInt .u32) y.Limbs))]) := by
 refine spec_mir Tryz.func51 rfl (by kernel_rfl) (by kernel_rfl) (fun y : ApiInt => .agg [.d (.bool y.Neg), .d (.list (List.map (eInt .u32) y.Limbs))]) ?_ h
 unfold dc_power
 simp only [List.replicate, List.length, nS, nA, Tryz.ntmps51, SV]
 refine .sR fun e h=>?_
 simp only [seval,EMQ,zero_51]
 refine mU e (.seqK (.bind fun y1 hy1=>.region fun e h=>?_)) h
 simp only [seval,EMQ]
 refine SpecS.by (it_FromInt64_spec hy1) (by simp only [seval,FMQ]) ?_
 simp only [seval,EMQ,zero_51,sz_51]
 refine mU e (.seqK (.bind fun y2 hy2=>.region fun e h=>?_)) h
 simp only [seval,EMQ]
 refine SpecS.by (it_FromInt64_spec hy2) (by simp only [seval,FMQ]) ?_
 simp only [seval,EMQ,zero_51,sz_51]
 refine mU e (.seqK (.sR fun e h=>?_)) h
 simp only [seval,EMQ]
 refine mU e (Mir.joinO (fun v2 : ApiInt=>([U,U,.ptr 0 0,.ptr 1 0] ++ us 11)) (fun v2=>⟨[[.d (.bool false),.nil],[.d (.bool v2.Neg),.d (.list (List.map (eInt .u32) v2.Limbs))],[.d (.bool y2.Neg),.d (.list (List.map (eInt .u32) y2.Limbs))]],[]⟩) (fun _=>rfl) ?_ ?_) h
 refine .block (Mir.loop (fun v1 : Int × ApiInt=>([U,U,.ptr 0 0,.ptr 1 0,.ptr 2 0,U,U,.d (.int .i64 a0),.d (.int .i64 v1.1)] ++ us 6)) (fun v1=>⟨[[.d (.bool false),.nil],[.d (.bool v1.2.Neg),.d (.list (List.map (eInt .u32) v1.2.Limbs))],[.d (.bool y2.Neg),.d (.list (List.map (eInt .u32) y2.Limbs))]],[]⟩) (fun _=>rfl) (by simp only [seval,FMQ]) (by simp only [seval,FMQ]) fun v1=>.sR fun e h=>?_)
 simp only [seval,EMQ]
 refine mU e (.seqK (.cond rfl (fun hb24=>?_) (fun hb24=>?_))) h
 refine .skip (Mir.toK (.seqK (.block (.bind fun y3 hy26=>.region fun e h=>?_))))
 simp only [seval,EMQ,ag_51,sz_51]
 refine SpecS.by (it_Mul_spec hy26) (by simp only [seval,FMQ]) ?_
 simp only [seval,EMQ,sz_51]
 refine mU e (.region fun e h=>?_) h
 simp only [seval,EMQ]
 cases h
 simp only [seval,FMQ,Tryz.results51,ag_51,sz_51]
 refine .exit fun e h=>?_
 cases h
 simp only [seval,FMQ,Tryz.results51,ag_51,sz_51]
 intro v2
 refine Mir.toK (.sR fun e h=>?_)
 simp only [seval,EMQ,ag_51,sz_51]
 refine mU e (.ret fun e h=>?_) h
 cases h
 simp only [seval,FMQ,Tryz.results51,ag_51,sz_51]
def ra_Mul (a0 : ApiRat) (a1 : ApiRat) : Option ApiRat := bindO (it_Mul a0.Num a1.Num) fun (y1 : ApiInt) => bindO (it_Mul a0.Den a1.Den) fun (y2 : ApiInt) => bindO (ra_reduce y1 y2) fun (y3 : ApiRat) => some y3
theorem ra_Mul_spec {a0 : ApiRat} {a1 : ApiRat} {y : ApiRat} (h : ra_Mul a0 a1 = some y) : Spec gP 39 [.agg [.d (.bool a0.Num.Neg), .d (.list (List.map (eInt .u32) a0.Num.Limbs)), .d (.bool a0.Den.Neg), .d (.list (List.map (eInt .u32) a0.Den.Limbs))], .agg [.d (.bool a1.Num.Neg), .d (.list (List.map (eInt .u32) a1.Num.Limbs)), .d (.bool a1.Den.Neg), .d (.list (List.map (eInt .u32) a1.Den.Limbs))]] (.agg [.d (.bool y.Num.Neg), .d (.list (List.map (eInt .u32) y.Num.Limbs)), .d (.bool y.Den.Neg), .d (.list (List.map (eInt .u32) y.Den.Limbs))]) := by
 refine spec_mir Tryz.func39 rfl (by kernel_rfl) (by kernel_rfl) (fun y : ApiRat => .agg [.d (.bool y.Num.Neg), .d (.list (List.map (eInt .u32) y.Num.Limbs)), .d (.bool y.Den.Neg), .d (.list (List.map (eInt .u32) y.Den.Limbs))]) ?_ h
 unfold ra_Mul
 simp only [List.replicate, List.length, nS, nA, Tryz.ntmps39, SV]
 refine .sR fun e h=>?_
 simp only [seval,EMQ,zero_53,eInt]
 refine mU e (.seqK (.bind fun y1 hy1=>.bind fun y2 hy2=>.bind fun y3 hy3=>.regionD [] (by kernel_rfl) fun e h=>?_)) h
 simp only [seval,EMQ,SB,fld_53_0,sz_51,ag_51,eInt]
 refine Spec.by (it_Mul_spec hy1) (by simp only [seval,FMQ,eInt]) ?_
 simp only [seval,EMQ,SB,fld_53_1,sz_51,ag_51,eInt]
 refine Spec.by (it_Mul_spec hy2) (by simp only [seval,FMQ,eInt]) ?_
 simp only [seval,EMQ,SB,eInt]
 refine Spec.by (ra_reduce_spec hy3) (by simp only [seval,FMQ,eInt]) ?_
 simp only [seval,EMQ,SB,sz_53,eInt]
 refine mU e (.ret fun e h=>?_) h
 cases h
 simp only [seval,FMQ,eInt,Tryz.results39,ag_53,sz_53]
def ra_whole (a0 : ApiInt) : Option ApiRat := bindO (ra_unit ) fun (y1 : ApiInt) => some (ApiRat.mk a0 y1)
theorem ra_whole_spec {a0 : ApiInt} {y : ApiRat} (h : ra_whole a0 = some y) : Spec gP 68 [.agg [.d (.bool a0.Neg), .d (.list (List.map (eInt .u32) a0.Limbs))]] (.agg [.d (.bool y.Num.Neg), .d (.list (List.map (eInt .u32) y.Num.Limbs)), .d (.bool y.Den.Neg), .d (.list (List.map (eInt .u32) y.Den.Limbs))]) := by
 refine spec_mir Tryz.func68 rfl (by kernel_rfl) (by kernel_rfl) (fun y : ApiRat => .agg [.d (.bool y.Num.Neg), .d (.list (List.map (eInt .u32) y.Num.Limbs)), .d (.bool y.Den.Neg), .d (.list (List.map (eInt .u32) y.Den.Limbs))]) ?_ h
 unfold ra_whole
 simp only [List.replicate, List.length, nS, nA, Tryz.ntmps68, SV]
 refine .sR fun e h=>?_
 simp only [seval,EMQ,zero_53,eInt]
 refine mU e (.seqK (.bind fun y1 hy1=>.regionD [] (by kernel_rfl) fun e h=>?_)) h
 simp only [seval,EMQ,SB,ag_51,sz_51,eInt]
 refine Spec.by (ra_unit_spec hy1) (rfl) ?_
 simp only [seval,EMQ,SB,zero_53,pl_53,sz_53,eInt]
 refine mU e (.ret fun e h=>?_) h
 cases h
 simp only [seval,FMQ,eInt,Tryz.results68,ag_53,sz_53]
def ra_FromInt64 (a0 : Int) : Option ApiRat := bindO (it_FromInt64 a0) fun (y1 : ApiInt) => bindO (ra_whole y1) fun (y2 : ApiRat) => some y2
theorem ra_FromInt64_spec {a0 : Int} {y : ApiRat} (h : ra_FromInt64 a0 = some y) : Spec gP 40 [.d (.int .i64 a0)] (.agg [.d (.bool y.Num.Neg), .d (.list (List.map (eInt .u32) y.Num.Limbs)), .d (.bool y.Den.Neg), .d (.list (List.map (eInt .u32) y.Den.Limbs))]) := by
 refine spec_mir Tryz.func40 rfl (by kernel_rfl) (by kernel_rfl) (fun y : ApiRat => .agg [.d (.bool y.Num.Neg), .d (.list (List.map (eInt .u32) y.Num.Limbs)), .d (.bool y.Den.Neg), .d (.list (List.map (eInt .u32) y.Den.Limbs))]) ?_ h
 unfold ra_FromInt64
 simp only [List.replicate, List.length, nS, nA, Tryz.ntmps40, SV]
 refine .sR fun e h=>?_
 simp only [seval,EMQ,zero_53]
 refine mU e (.seqK (.bind fun y1 hy1=>.bind fun y2 hy2=>.region fun e h=>?_)) h
 simp only [seval,EMQ]
 refine SpecS.by (it_FromInt64_spec hy1) (by simp only [seval,FMQ]) ?_
 simp only [seval,EMQ]
 refine SpecS.by (ra_whole_spec hy2) (by simp only [seval,FMQ]) ?_
 simp only [seval,EMQ,sz_53]
 refine mU e (.ret fun e h=>?_) h
 cases h
 simp only [seval,FMQ,Tryz.results40,ag_53,sz_53]
end Go.Proofs.YtpdjgamdnjfmkaaGreatDoor
