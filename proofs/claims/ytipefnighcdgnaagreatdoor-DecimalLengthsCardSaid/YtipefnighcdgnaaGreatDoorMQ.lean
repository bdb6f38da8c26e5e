import Derived.Test.YtipefnighcdgnaaGreatDoorGx
import Derived.Test.YtipefnighcdgnaaGreatDoorTy
import Derived.Test.YtipefnighcdgnaaGreatDoorMI
namespace Go.Proofs.YtipefnighcdgnaaGreatDoor
open Go.RowKit
open Nat renaming reduceAdd → nA, reduceSub → nS, reduceMul → nM, reduceEqDiff → nE, reduceLeDiff → nL, reduceLT → nT, reduceBEq → nB
open Int renaming reduceLT → iT, reduceToNat → iN, reduceEq → iE
set_option linter.unusedVariables false
set_option linter.unusedSimpArgs false
set_option maxRecDepth 100000
set_option maxHeartbeats 8000000
structure ApiRat where
 Num : ApiInt
 Den : ApiInt
 deriving DecidableEq
def encApiRat (x : ApiRat) : List D := [.bool x.Num.Neg, .list (List.map (eInt .u32) x.Num.Limbs), .bool x.Den.Neg, .list (List.map (eInt .u32) x.Den.Limbs)]
structure ApiRoot where
 A : ApiRat
 B : ApiRat
 C : ApiRat
 deriving DecidableEq
def encApiRoot (x : ApiRoot) : List D := [.bool x.A.Num.Neg, .list (List.map (eInt .u32) x.A.Num.Limbs), .bool x.A.Den.Neg, .list (List.map (eInt .u32) x.A.Den.Limbs), .bool x.B.Num.Neg, .list (List.map (eInt .u32) x.B.Num.Limbs), .bool x.B.Den.Neg, .list (List.map (eInt .u32) x.B.Den.Limbs), .bool x.C.Num.Neg, .list (List.map (eInt .u32) x.C.Num.Limbs), .bool x.C.Den.Neg, .list (List.map (eInt .u32) x.C.Den.Limbs)]
structure R03Surd where
 A : Int
 B : Int
 C : Int
 D : Int
 E : Int
 F : Int
 deriving DecidableEq
def encR03Surd (x : R03Surd) : List D := [.int .i16 x.A, .int .i16 x.B, .int .u16 x.C, .int .u8 x.D, .int .u8 x.E, .int .u8 x.F]
theorem ENMQ : type_of% (And.intro @encApiRat.eq_1 <| And.intro @encApiRoot.eq_1 <| @encR03Surd.eq_1) := And.intro @encApiRat.eq_1 <| And.intro @encApiRoot.eq_1 <| @encR03Surd.eq_1
theorem EMQ : type_of% (And.intro @SE <| @ENMQ) := And.intro @SE <| @ENMQ
theorem FMQ : type_of% (And.intro @SF <| @ENMQ) := And.intro @SF <| @ENMQ
def ra_unit  : Option ApiInt := bindO (it_FromInt64 1) fun (y1 : ApiInt) => some y1
theorem ra_unit_spec  {y : ApiInt} (h : ra_unit = some y) : Spec gP 142 [] (.agg [.d (.bool y.Neg), .d (.list (List.map (eInt .u32) y.Limbs))]) := by
 refine spec_mir Tryz.func142 rfl (by kernel_rfl) (by kernel_rfl) (fun y : ApiInt => .agg [.d (.bool y.Neg), .d (.list (List.map (eInt .u32) y.Limbs))]) ?_ h
 unfold ra_unit
 simp only [List.replicate, List.length, nS, nA, Tryz.ntmps142, SV]
 refine .sR fun e h=>?_
 simp only [seval,EMQ,zero_29]
 refine mU e (.seqK (.bind fun y1 hy1=>.region fun e h=>?_)) h
 simp only [seval,EMQ]
 refine SpecS.by (it_FromInt64_spec hy1) (by simp only [seval,FMQ]) ?_
 simp only [seval,EMQ,sz_29]
 refine mU e (.ret fun e h=>?_) h
 cases h
 simp only [seval,FMQ,Tryz.results142,ag_29,sz_29]
def ra_whole (a0 : ApiInt) : Option ApiRat := bindO (ra_unit ) fun (y1 : ApiInt) => some (ApiRat.mk a0 y1)
theorem ra_whole_spec {a0 : ApiInt} {y : ApiRat} (h : ra_whole a0 = some y) : Spec gP 146 [.agg [.d (.bool a0.Neg), .d (.list (List.map (eInt .u32) a0.Limbs))]] (.agg [.d (.bool y.Num.Neg), .d (.list (List.map (eInt .u32) y.Num.Limbs)), .d (.bool y.Den.Neg), .d (.list (List.map (eInt .u32) y.Den.Limbs))]) := by
 refine spec_mir Tryz.func146 rfl (by kernel_rfl) (by kernel_rfl) (fun y : ApiRat => .agg [.d (.bool y.Num.Neg), .d (.list (List.map (eInt .u32) y.Num.Limbs)), .d (.bool y.Den.Neg), .d (.list (List.map (eInt .u32) y.Den.Limbs))]) ?_ h
 unfold ra_whole
 simp only [List.replicate, List.length, nS, nA, Tryz.ntmps146, SV]
 refine .sR fun e h=>?_
 simp only [seval,EMQ,zero_31,eInt]
 refine mU e (.seqK (.bind fun y1 hy1=>.regionD [] (by kernel_rfl) fun e h=>?_)) h
 simp only [seval,EMQ,SB,ag_29,sz_29,eInt]
 refine Spec.by (ra_unit_spec hy1) (rfl) ?_
 simp only [seval,EMQ,SB,zero_31,pl_31,sz_31,eInt]
 refine mU e (.ret fun e h=>?_) h
 cases h
 simp only [seval,FMQ,eInt,Tryz.results146,ag_31,sz_31]
def ra_FromInt64 (a0 : Int) : Option ApiRat := bindO (it_FromInt64 a0) fun (y1 : ApiInt) => bindO (ra_whole y1) fun (y2 : ApiRat) => some y2
theorem ra_FromInt64_spec {a0 : Int} {y : ApiRat} (h : ra_FromInt64 a0 = some y) : Spec gP 98 [.d (.int .i64 a0)] (.agg [.d (.bool y.Num.Neg), .d (.list (List.map (eInt .u32) y.Num.Limbs)), .d (.bool y.Den.Neg), .d (.list (List.map (eInt .u32) y.Den.Limbs))]) := by
 refine spec_mir Tryz.func98 rfl (by kernel_rfl) (by kernel_rfl) (fun y : ApiRat => .agg [.d (.bool y.Num.Neg), .d (.list (List.map (eInt .u32) y.Num.Limbs)), .d (.bool y.Den.Neg), .d (.list (List.map (eInt .u32) y.Den.Limbs))]) ?_ h
 unfold ra_FromInt64
 simp only [List.replicate, List.length, nS, nA, Tryz.ntmps98, SV]
 refine .sR fun e h=>?_
 simp only [seval,EMQ,zero_31]
 refine mU e (.seqK (.bind fun y1 hy1=>.bind fun y2 hy2=>.region fun e h=>?_)) h
 simp only [seval,EMQ]
 refine SpecS.by (it_FromInt64_spec hy1) (by simp only [seval,FMQ]) ?_
 simp only [seval,EMQ]
 refine SpecS.by (ra_whole_spec hy2) (by simp only [seval,FMQ]) ?_
 simp only [seval,EMQ,sz_31]
 refine mU e (.ret fun e h=>?_) h
 cases h
 simp only [seval,FMQ,Tryz.results98,ag_31,sz_31]
def ra_exact (a0 : ApiInt) (a1 : ApiInt) : Option ApiInt := bindO (it_DivMod a0 a1) fun (y1 : ApiInt × ApiInt × Int) => some y1.1
theorem ra_exact_spec {a0 : ApiInt} {a1 : ApiInt} {y : ApiInt} (h : ra_exact a0 a1 = some y) : Spec gP 143 [.agg [.d (.bool a0.Neg), .d (.list (List.map (eInt .u32) a0.Limbs))], .agg [.d (.bool a1.Neg), .d (.list (List.map (eInt .u32) a1.Limbs))]] (.agg [.d (.bool y.Neg), .d (.list (List.map (eInt .u32) y.Limbs))]) := by
 refine spec_mir Tryz.func143 rfl (by kernel_rfl) (by kernel_rfl) (fun y : ApiInt => .agg [.d (.bool y.Neg), .d (.list (List.map (eInt .u32) y.Limbs))]) ?_ h
 unfold ra_exact
 simp only [List.replicate, List.length, nS, nA, Tryz.ntmps143, SV]
 refine .sR fun e h=>?_
 simp only [seval,EMQ,zero_29,eInt]
 refine mU e (.seqK (.bind fun y1 hy1=>.region fun e h=>?_)) h
 simp only [seval,EMQ,ag_29,sz_29,eInt]
 refine SpecS.by (it_DivMod_spec hy1) (by simp only [seval,FMQ,eInt]) ?_
 simp only [seval,EMQ,zero_29,sz_29,eInt]
 refine mU e (.sR fun e h=>?_) h
 simp only [seval,EMQ,ag_29,sz_29,eInt]
 refine mU e (.ret fun e h=>?_) h
 cases h
 simp only [seval,FMQ,eInt,Tryz.results143,ag_29,sz_29]
def ra_reduce (a0 : ApiInt) (a1 : ApiInt) : Option ApiRat := bindO (it_Sign a1) fun (y1 : Int) => bindO (if (decide (y1 < 0)) = true then bindO (it_Neg a0) fun (y2 : ApiInt) => bindO (it_Neg a1) fun (y3 : ApiInt) => some (y2, y3) else some (a0, a1)) fun (v1 : ApiInt × ApiInt) => bindO (it_GCD v1.1 v1.2) fun (y4 : ApiInt) => bindO (ra_unit ) fun (y5 : ApiInt) => bindO (it_Cmp y4 y5) fun (y6 : Int) => bindO (if (y6 != 0) = true then bindO (ra_exact v1.1 y4) fun (y7 : ApiInt) => bindO (ra_exact v1.2 y4) fun (y8 : ApiInt) => some (y7, y8) else some (v1.1, v1.2)) fun (v2 : ApiInt × ApiInt) => some (ApiRat.mk v2.1 v2.2)
theorem ra_reduce_spec {a0 : ApiInt} {a1 : ApiInt} {y : ApiRat} (h : ra_reduce a0 a1 = some y) : Spec gP 96 [.agg [.d (.bool a0.Neg), .d (.list (List.map (eInt .u32) a0.Limbs))], .agg [.d (.bool a1.Neg), .d (.list (List.map (eInt .u32) a1.Limbs))]] (.agg [.d (.bool y.Num.Neg), .d (.list (List.map (eInt .u32) y.Num.Limbs)), .d (.bool y.Den.Neg), .d (.list (List.map (eInt .u32) y.Den.Limbs))]) := by
 refine spec_mir Tryz.func96 rfl (by kernel_rfl) (by kernel_rfl) (fun y : ApiRat => .agg [.d (.bool y.Num.Neg), .d (.list (List.map (eInt .u32) y.Num.Limbs)), .d (.bool y.Den.Neg), .d (.list (List.map (eInt .u32) y.Den.Limbs))]) ?_ h
 unfold ra_reduce
 simp only [List.replicate, List.length, nS, nA, Tryz.ntmps96, SV]
 refine .sR fun e h=>?_
 simp only [seval,EMQ,zero_31,eInt]
 refine mU e (.seqK (.seqK (.bind fun y1 hy1=>.region fun e h=>?_))) h
 simp only [seval,EMQ,ag_29,sz_29,eInt]
 refine SpecS.by (it_Sign_spec hy1) (by simp only [seval,FMQ,eInt]) ?_
 simp only [seval,EMQ,eInt]
 refine mU e (Mir.joinO (fun v1 : ApiInt × ApiInt=>([U,U,.ptr 0 0,.ptr 1 0,.ptr 2 0] ++ us 24)) (fun v1=>⟨[[.d (.bool v1.1.Neg),.d (.list (List.map (eInt .u32) v1.1.Limbs))],[.d (.bool v1.2.Neg),.d (.list (List.map (eInt .u32) v1.2.Limbs))],[.d (.bool false),.nil,.d (.bool false),.nil]],[]⟩) (fun _=>rfl) ?_ ?_) h
 refine .cond rfl (fun hb5=>?_) (fun hb5=>?_)
 refine .bind fun y2 hy6=>.bind fun y3 hy7=>.regionD [] (by kernel_rfl) fun e h=>?_
 simp only [seval,EMQ,SB,ag_29,sz_29,eInt]
 refine Spec.by (it_Neg_spec hy6) (by simp only [seval,FMQ,eInt]) ?_
 simp only [seval,EMQ,SB,ag_29,sz_29,eInt]
 refine Spec.by (it_Neg_spec hy7) (by simp only [seval,FMQ,eInt]) ?_
 simp only [seval,EMQ,SB,sz_29,eInt]
 cases h
 simp only [seval,FMQ,eInt,Tryz.results96,ag_31,sz_31]
 refine .skip fun e h=>?_
 cases h
 simp only [seval,FMQ,eInt,Tryz.results96,ag_31,sz_31]
 intro v1
 refine Mir.toK (.seqK (.seqK (.bind fun y4 hy8=>.region fun e h=>?_)))
 simp only [seval,EMQ,ag_29,sz_29,eInt]
 refine SpecS.by (it_GCD_spec hy8) (by simp only [seval,FMQ,eInt]) ?_
 simp only [seval,EMQ,zero_29,sz_29,eInt]
 refine mU e (.seqK (.bind fun y5 hy9=>.bind fun y6 hy10=>.regionD [] (by kernel_rfl) fun e h=>?_)) h
 simp only [seval,EMQ,SB,ag_29,sz_29,eInt]
 refine Spec.by (ra_unit_spec hy9) (rfl) ?_
 simp only [seval,EMQ,SB,eInt]
 refine Spec.by (it_Cmp_spec hy10) (by simp only [seval,FMQ,eInt]) ?_
 simp only [seval,EMQ,SB,eInt]
 refine mU e (Mir.joinO (fun v2 : ApiInt × ApiInt=>([U,U,.ptr 0 0,.ptr 1 0,.ptr 2 0] ++ us 24)) (fun v2=>⟨[[.d (.bool v2.1.Neg),.d (.list (List.map (eInt .u32) v2.1.Limbs))],[.d (.bool v2.2.Neg),.d (.list (List.map (eInt .u32) v2.2.Limbs))],[.d (.bool false),.nil,.d (.bool false),.nil],[.d (.bool y4.Neg),.d (.list (List.map (eInt .u32) y4.Limbs))]],[]⟩) (fun _=>rfl) ?_ ?_) h
 refine .cond rfl (fun hb14=>?_) (fun hb14=>?_)
 refine .bind fun y7 hy15=>.bind fun y8 hy16=>.regionD [] (by kernel_rfl) fun e h=>?_
 simp only [seval,EMQ,SB,ag_29,sz_29,eInt]
 refine Spec.by (ra_exact_spec hy15) (by simp only [seval,FMQ,eInt]) ?_
 simp only [seval,EMQ,SB,ag_29,sz_29,eInt]
 refine Spec.by (ra_exact_spec hy16) (by simp only [seval,FMQ,eInt]) ?_
 simp only [seval,EMQ,SB,sz_29,eInt]
 cases h
 simp only [seval,FMQ,eInt,Tryz.results96,ag_31,sz_31]
 refine .skip fun e h=>?_
 cases h
 simp only [seval,FMQ,eInt,Tryz.results96,ag_31,sz_31]
 intro v2
 refine Mir.toK (.sR fun e h=>?_)
 simp only [seval,EMQ,ag_29,sz_29,zero_31,pl_31,sz_31,eInt]
 refine mU e (.ret fun e h=>?_) h
 cases h
 simp only [seval,FMQ,eInt,Tryz.results96,ag_31,sz_31]
def ra_Frac (a0 : Int) (a1 : Int) : Option ApiRat := if (a1 == 0) = true then bindO (ra_FromInt64 0) fun (y1 : ApiRat) => some y1 else bindO (it_FromInt64 a0) fun (y2 : ApiInt) => bindO (it_FromInt64 a1) fun (y3 : ApiInt) => bindO (ra_reduce y2 y3) fun (y4 : ApiRat) => some y4
theorem ra_Frac_spec {a0 : Int} {a1 : Int} {y : ApiRat} (h : ra_Frac a0 a1 = some y) : Spec gP 51 [.d (.int .i64 a0), .d (.int .i64 a1)] (.agg [.d (.bool y.Num.Neg), .d (.list (List.map (eInt .u32) y.Num.Limbs)), .d (.bool y.Den.Neg), .d (.list (List.map (eInt .u32) y.Den.Limbs))]) := by
 refine spec_mir Tryz.func51 rfl (by kernel_rfl) (by kernel_rfl) (fun y : ApiRat => .agg [.d (.bool y.Num.Neg), .d (.list (List.map (eInt .u32) y.Num.Limbs)), .d (.bool y.Den.Neg), .d (.list (List.map (eInt .u32) y.Den.Limbs))]) ?_ h
 unfold ra_Frac
 simp only [List.replicate, List.length, nS, nA, Tryz.ntmps51, SV]
 refine .sR fun e h=>?_
 simp only [seval,EMQ,zero_31]
 refine mU e (.seqK (.sR fun e h=>?_)) h
 simp only [seval,EMQ]
 refine mU e (.cond rfl (fun hb3=>?_) (fun hb3=>?_)) h
 refine .seqK (.bind fun y1 hy4=>.region fun e h=>?_)
 simp only [seval,EMQ]
 refine SpecS.by (ra_FromInt64_spec hy4) (by simp only [seval,FMQ]) ?_
 simp only [seval,EMQ,sz_31]
 refine mU e (.ret fun e h=>?_) h
 cases h
 simp only [seval,FMQ,Tryz.results51,ag_31,sz_31]
 refine .skip (Mir.toK (.seqK (.bind fun y2 hy5=>.bind fun y3 hy6=>.bind fun y4 hy7=>.region fun e h=>?_)))
 simp only [seval,EMQ]
 refine SpecS.by (it_FromInt64_spec hy5) (by simp only [seval,FMQ]) ?_
 simp only [seval,EMQ]
 refine SpecS.by (it_FromInt64_spec hy6) (by simp only [seval,FMQ]) ?_
 simp only [seval,EMQ]
 refine SpecS.by (ra_reduce_spec hy7) (by simp only [seval,FMQ]) ?_
 simp only [seval,EMQ,sz_31]
 refine mU e (.ret fun e h=>?_) h
 cases h
 simp only [seval,FMQ,Tryz.results51,ag_31,sz_31]
def ra_Add (a0 : ApiRat) (a1 : ApiRat) : Option ApiRat := bindO (it_Cmp a0.Den a1.Den) fun (y1 : Int) => if (y1 == 0) = true then bindO (it_Add a0.Num a1.Num) fun (y2 : ApiInt) => bindO (ra_reduce y2 a0.Den) fun (y3 : ApiRat) => some y3 else bindO (it_Mul a0.Num a1.Den) fun (y4 : ApiInt) => bindO (it_Mul a1.Num a0.Den) fun (y5 : ApiInt) => bindO (it_Add y4 y5) fun (y6 : ApiInt) => bindO (it_Mul a0.Den a1.Den) fun (y7 : ApiInt) => bindO (ra_reduce y6 y7) fun (y8 : ApiRat) => some y8
theorem ra_Add_spec {a0 : ApiRat} {a1 : ApiRat} {y : ApiRat} (h : ra_Add a0 a1 = some y) : Spec gP 50 [.agg [.d (.bool a0.Num.Neg), .d (.list (List.map (eInt .u32) a0.Num.Limbs)), .d (.bool a0.Den.Neg), .d (.list (List.map (eInt .u32) a0.Den.Limbs))], .agg [.d (.bool a1.Num.Neg), .d (.list (List.map (eInt .u32) a1.Num.Limbs)), .d (.bool a1.Den.Neg), .d (.list (List.map (eInt .u32) a1.Den.Limbs))]] (.agg [.d (.bool y.Num.Neg), .d (.list (List.map (eInt .u32) y.Num.Limbs)), .d (.bool y.Den.Neg), .d (.list (List.map (eInt .u32) y.Den.Limbs))]) := by
 refine spec_mir Tryz.func50 rfl (by kernel_rfl) (by kernel_rfl) (fun y : ApiRat => .agg [.d (.bool y.Num.Neg), .d (.list (List.map (eInt .u32) y.Num.Limbs)), .d (.bool y.Den.Neg), .d (.list (List.map (eInt .u32) y.Den.Limbs))]) ?_ h
 unfold ra_Add
 simp only [List.replicate, List.length, nS, nA, Tryz.ntmps50, SV]
 refine .sR fun e h=>?_
 simp only [seval,EMQ,zero_31,eInt]
 refine mU e (.seqK (.seqK (.bind fun y1 hy1=>.region fun e h=>?_))) h
 simp only [seval,EMQ,fld_31_1,sz_29,ag_29,eInt]
 refine SpecS.by (it_Cmp_spec hy1) (by simp only [seval,FMQ,eInt]) ?_
 simp only [seval,EMQ,eInt]
 refine mU e (.cond rfl (fun hb5=>?_) (fun hb5=>?_)) h
 refine .seqK (.bind fun y2 hy6=>.bind fun y3 hy7=>.regionD [] (by kernel_rfl) fun e h=>?_)
 simp only [seval,EMQ,SB,fld_31_0,sz_29,ag_29,eInt]
 refine Spec.by (it_Add_spec hy6) (by simp only [seval,FMQ,eInt]) ?_
 simp only [seval,EMQ,SB,fld_31_1,sz_29,ag_29,eInt]
 refine Spec.by (ra_reduce_spec hy7) (by simp only [seval,FMQ,eInt]) ?_
 simp only [seval,EMQ,SB,sz_31,eInt]
 refine mU e (.ret fun e h=>?_) h
 cases h
 simp only [seval,FMQ,eInt,Tryz.results50,ag_31,sz_31]
 refine .skip (Mir.toK (.seqK (.bind fun y4 hy8=>.bind fun y5 hy9=>.bind fun y6 hy10=>.bind fun y7 hy11=>.bind fun y8 hy12=>.regionD [] (by kernel_rfl) fun e h=>?_)))
 simp only [seval,EMQ,SB,fld_31_0,sz_29,ag_29,fld_31_1,eInt]
 refine Spec.by (it_Mul_spec hy8) (by simp only [seval,FMQ,eInt]) ?_
 simp only [seval,EMQ,SB,fld_31_0,sz_29,ag_29,fld_31_1,eInt]
 refine Spec.by (it_Mul_spec hy9) (by simp only [seval,FMQ,eInt]) ?_
 simp only [seval,EMQ,SB,eInt]
 refine Spec.by (it_Add_spec hy10) (by simp only [seval,FMQ,eInt]) ?_
 simp only [seval,EMQ,SB,fld_31_1,sz_29,ag_29,eInt]
 refine Spec.by (it_Mul_spec hy11) (by simp only [seval,FMQ,eInt]) ?_
 simp only [seval,EMQ,SB,eInt]
 refine Spec.by (ra_reduce_spec hy12) (by simp only [seval,FMQ,eInt]) ?_
 simp only [seval,EMQ,SB,sz_31,eInt]
 refine mU e (.ret fun e h=>?_) h
 cases h
 simp only [seval,FMQ,eInt,Tryz.results50,ag_31,sz_31]
def ra_Sign (a0 : ApiRat) : Option Int := bindO (it_Sign a0.Num) fun (y1 : Int) => some y1
theorem ra_Sign_spec {a0 : ApiRat} {y : Int} (h : ra_Sign a0 = some y) : Spec gP 99 [.agg [.d (.bool a0.Num.Neg), .d (.list (List.map (eInt .u32) a0.Num.Limbs)), .d (.bool a0.Den.Neg), .d (.list (List.map (eInt .u32) a0.Den.Limbs))]] (.d (.int .i64 y)) := by
 refine spec_mir Tryz.func99 rfl (by kernel_rfl) (by kernel_rfl) (fun y : Int => .d (.int .i64 y)) ?_ h
 unfold ra_Sign
 simp only [List.replicate, List.length, nS, nA, Tryz.ntmps99, SV]
 refine .sR fun e h=>?_
 simp only [seval,EMQ,eInt]
 refine mU e (.seqK (.bind fun y1 hy1=>.region fun e h=>?_)) h
 simp only [seval,EMQ,fld_31_0,sz_29,ag_29,eInt]
 refine SpecS.by (it_Sign_spec hy1) (by simp only [seval,FMQ,eInt]) ?_
 simp only [seval,EMQ,eInt]
 refine mU e (.ret fun e h=>?_) h
 cases h
 simp only [seval,FMQ,eInt,Tryz.results99]
def ra_Floor (a0 : ApiRat) : Option ApiInt := bindO (it_DivMod a0.Num a0.Den) fun (y1 : ApiInt × ApiInt × Int) => some y1.1
theorem ra_Floor_spec {a0 : ApiRat} {y : ApiInt} (h : ra_Floor a0 = some y) : Spec gP 100 [.agg [.d (.bool a0.Num.Neg), .d (.list (List.map (eInt .u32) a0.Num.Limbs)), .d (.bool a0.Den.Neg), .d (.list (List.map (eInt .u32) a0.Den.Limbs))]] (.agg [.d (.bool y.Neg), .d (.list (List.map (eInt .u32) y.Limbs))]) := by
 refine spec_mir Tryz.func100 rfl (by kernel_rfl) (by kernel_rfl) (fun y : ApiInt => .agg [.d (.bool y.Neg), .d (.list (List.map (eInt .u32) y.Limbs))]) ?_ h
 unfold ra_Floor
 simp only [List.replicate, List.length, nS, nA, Tryz.ntmps100, SV]
 refine .sR fun e h=>?_
 simp only [seval,EMQ,zero_29,eInt]
 refine mU e (.seqK (.bind fun y1 hy1=>.region fun e h=>?_)) h
 simp only [seval,EMQ,fld_31_0,sz_29,ag_29,fld_31_1,eInt]
 refine SpecS.by (it_DivMod_spec hy1) (by simp only [seval,FMQ,eInt]) ?_
 simp only [seval,EMQ,zero_29,sz_29,eInt]
 refine mU e (.sR fun e h=>?_) h
 simp only [seval,EMQ,ag_29,sz_29,eInt]
 refine mU e (.ret fun e h=>?_) h
 cases h
 simp only [seval,FMQ,eInt,Tryz.results100,ag_29,sz_29]
def ra_Mul (a0 : ApiRat) (a1 : ApiRat) : Option ApiRat := bindO (it_Mul a0.Num a1.Num) fun (y1 : ApiInt) => bindO (it_Mul a0.Den a1.Den) fun (y2 : ApiInt) => bindO (ra_reduce y1 y2) fun (y3 : ApiRat) => some y3
theorem ra_Mul_spec {a0 : ApiRat} {a1 : ApiRat} {y : ApiRat} (h : ra_Mul a0 a1 = some y) : Spec gP 101 [.agg [.d (.bool a0.Num.Neg), .d (.list (List.map (eInt .u32) a0.Num.Limbs)), .d (.bool a0.Den.Neg), .d (.list (List.map (eInt .u32) a0.Den.Limbs))], .agg [.d (.bool a1.Num.Neg), .d (.list (List.map (eInt .u32) a1.Num.Limbs)), .d (.bool a1.Den.Neg), .d (.list (List.map (eInt .u32) a1.Den.Limbs))]] (.agg [.d (.bool y.Num.Neg), .d (.list (List.map (eInt .u32) y.Num.Limbs)), .d (.bool y.Den.Neg), .d (.list (List.map (eInt .u32) y.Den.Limbs))]) := by
 refine spec_mir Tryz.func101 rfl (by kernel_rfl) (by kernel_rfl) (fun y : ApiRat => .agg [.d (.bool y.Num.Neg), .d (.list (List.map (eInt .u32) y.Num.Limbs)), .d (.bool y.Den.Neg), .d (.list (List.map (eInt .u32) y.Den.Limbs))]) ?_ h
 unfold ra_Mul
 simp only [List.replicate, List.length, nS, nA, Tryz.ntmps101, SV]
 refine .sR fun e h=>?_
 simp only [seval,EMQ,zero_31,eInt]
 refine mU e (.seqK (.bind fun y1 hy1=>.bind fun y2 hy2=>.bind fun y3 hy3=>.regionD [] (by kernel_rfl) fun e h=>?_)) h
 simp only [seval,EMQ,SB,fld_31_0,sz_29,ag_29,eInt]
 refine Spec.by (it_Mul_spec hy1) (by simp only [seval,FMQ,eInt]) ?_
 simp only [seval,EMQ,SB,fld_31_1,sz_29,ag_29,eInt]
 refine Spec.by (it_Mul_spec hy2) (by simp only [seval,FMQ,eInt]) ?_
 simp only [seval,EMQ,SB,eInt]
 refine Spec.by (ra_reduce_spec hy3) (by simp only [seval,FMQ,eInt]) ?_
 simp only [seval,EMQ,SB,sz_31,eInt]
 refine mU e (.ret fun e h=>?_) h
 cases h
 simp only [seval,FMQ,eInt,Tryz.results101,ag_31,sz_31]
def rt_Floor (a0 : ApiRoot) : Option ApiInt := bindO (ra_Sign a0.B) fun (y1 : Int) => if (y1 == 0) = true then bindO (ra_Floor a0.A) fun (y2 : ApiInt) => some y2 else bindO (ra_Mul a0.B a0.B) fun (y3 : ApiRat) => bindO (ra_Mul y3 a0.C) fun (y4 : ApiRat) => bindO (it_Mul a0.A.Den a0.A.Den) fun (y5 : ApiInt) => bindO (it_Mul y4.Num y4.Den) fun (y6 : ApiInt) => bindO (it_Mul y5 y6) fun (y7 : ApiInt) => bindO (it_Sqrt y7) fun (y8 : ApiInt × Int) => bindO (ra_Sign a0.B) fun (y9 : Int) => bindO (if (decide (y9 < 0)) = true then bindO (it_FromInt64 1) fun (y10 : ApiInt) => bindO (it_Add y8.1 y10) fun (y11 : ApiInt) => bindO (it_Neg y11) fun (y12 : ApiInt) => some y12 else some y8.1) fun (v1 : ApiInt) => bindO (it_Mul a0.A.Num y4.Den) fun (y13 : ApiInt) => bindO (it_Add y13 v1) fun (y14 : ApiInt) => bindO (it_Mul a0.A.Den y4.Den) fun (y15 : ApiInt) => bindO (it_DivMod y14 y15) fun (y16 : ApiInt × ApiInt × Int) => some y16.1
theorem rt_Floor_spec {a0 : ApiRoot} {y : ApiInt} (h : rt_Floor a0 = some y) : Spec gP 52 [.agg [.d (.bool a0.A.Num.Neg), .d (.list (List.map (eInt .u32) a0.A.Num.Limbs)), .d (.bool a0.A.Den.Neg), .d (.list (List.map (eInt .u32) a0.A.Den.Limbs)), .d (.bool a0.B.Num.Neg), .d (.list (List.map (eInt .u32) a0.B.Num.Limbs)), .d (.bool a0.B.Den.Neg), .d (.list (List.map (eInt .u32) a0.B.Den.Limbs)), .d (.bool a0.C.Num.Neg), .d (.list (List.map (eInt .u32) a0.C.Num.Limbs)), .d (.bool a0.C.Den.Neg), .d (.list (List.map (eInt .u32) a0.C.Den.Limbs))]] (.agg [.d (.bool y.Neg), .d (.list (List.map (eInt .u32) y.Limbs))]) := by
 refine spec_mir Tryz.func52 rfl (by kernel_rfl) (by kernel_rfl) (fun y : ApiInt => .agg [.d (.bool y.Neg), .d (.list (List.map (eInt .u32) y.Limbs))]) ?_ h
 unfold rt_Floor
 simp only [List.replicate, List.length, nS, nA, Tryz.ntmps52, SV]
 refine .sR fun e h=>?_
 simp only [seval,EMQ,zero_29,eInt]
 refine mU e (.seqK (.seqK (.bind fun y1 hy1=>.region fun e h=>?_))) h
 simp only [seval,EMQ,fld_33_1,sz_31,ag_31,eInt]
 refine SpecS.by (ra_Sign_spec hy1) (by simp only [seval,FMQ,eInt]) ?_
 simp only [seval,EMQ,eInt]
 refine mU e (.cond rfl (fun hb4=>?_) (fun hb4=>?_)) h
 refine .seqK (.bind fun y2 hy5=>.region fun e h=>?_)
 simp only [seval,EMQ,fld_33_0,sz_31,ag_31,eInt]
 refine SpecS.by (ra_Floor_spec hy5) (by simp only [seval,FMQ,eInt]) ?_
 simp only [seval,EMQ,sz_29,eInt]
 refine mU e (.ret fun e h=>?_) h
 cases h
 simp only [seval,FMQ,eInt,Tryz.results52,ag_29,sz_29]
 refine .skip (Mir.toK (.seqK (.bind fun y3 hy6=>.bind fun y4 hy7=>.regionD [] (by kernel_rfl) fun e h=>?_)))
 simp only [seval,EMQ,SB,fld_33_1,sz_31,ag_31,eInt]
 refine Spec.by (ra_Mul_spec hy6) (by simp only [seval,FMQ,eInt]) ?_
 simp only [seval,EMQ,SB,fld_33_2,sz_31,ag_31,eInt]
 refine Spec.by (ra_Mul_spec hy7) (by simp only [seval,FMQ,eInt]) ?_
 simp only [seval,EMQ,SB,zero_31,sz_31,eInt]
 refine mU e (.seqK (.regionD [(30,4)] (by kernel_rfl) fun e h=>?_)) h
 simp only [seval,EMQ,SB,fld_33_0,sz_31,fld_31_1,sz_29,ag_29,zero_29,eInt]
 refine mU e (.seqK (.bind fun y5 hy8=>.bind fun y6 hy9=>.bind fun y7 hy10=>.regionD [] (by kernel_rfl) fun e h=>?_)) h
 simp only [seval,EMQ,SB,ag_29,sz_29,eInt]
 refine Spec.by (it_Mul_spec hy8) (by simp only [seval,FMQ,eInt]) ?_
 simp only [seval,EMQ,SB,fld_31_0,sz_29,ag_29,eInt]
 refine Spec.by (it_Mul_spec hy9) (by simp only [seval,FMQ,eInt]) ?_
 simp only [seval,EMQ,SB,eInt]
 refine Spec.by (it_Mul_spec hy10) (by simp only [seval,FMQ,eInt]) ?_
 simp only [seval,EMQ,SB,zero_29,sz_29,eInt]
 refine mU e (.seqK (.bind fun y8 hy11=>.region fun e h=>?_)) h
 simp only [seval,EMQ,ag_29,sz_29,eInt]
 refine SpecS.by (it_Sqrt_spec hy11) (by simp only [seval,FMQ,eInt]) ?_
 simp only [seval,EMQ,zero_29,sz_29,eInt]
 refine mU e (.seqK (.seqK (.bind fun y9 hy12=>.region fun e h=>?_))) h
 simp only [seval,EMQ,fld_33_1,sz_31,ag_31,eInt]
 refine SpecS.by (ra_Sign_spec hy12) (by simp only [seval,FMQ,eInt]) ?_
 simp only [seval,EMQ,eInt]
 refine mU e (Mir.joinO (fun v1 : ApiInt=>([U,.ptr 0 0,.ptr 1 0,U,.ptr 3 0,.ptr 4 0,U,.ptr 6 0] ++ us 61)) (fun v1=>⟨[[.d (.bool a0.A.Num.Neg),.d (.list (List.map (eInt .u32) a0.A.Num.Limbs)),.d (.bool a0.A.Den.Neg),.d (.list (List.map (eInt .u32) a0.A.Den.Limbs)),.d (.bool a0.B.Num.Neg),.d (.list (List.map (eInt .u32) a0.B.Num.Limbs)),.d (.bool a0.B.Den.Neg),.d (.list (List.map (eInt .u32) a0.B.Den.Limbs)),.d (.bool a0.C.Num.Neg),.d (.list (List.map (eInt .u32) a0.C.Num.Limbs)),.d (.bool a0.C.Den.Neg),.d (.list (List.map (eInt .u32) a0.C.Den.Limbs))],[.d (.bool false),.nil],[.d (.bool y4.Num.Neg),.d (.list (List.map (eInt .u32) y4.Num.Limbs)),.d (.bool y4.Den.Neg),.d (.list (List.map (eInt .u32) y4.Den.Limbs))],[.d (.bool a0.A.Den.Neg),.d (.list (List.map (eInt .u32) a0.A.Den.Limbs))],[.d (.bool y4.Den.Neg),.d (.list (List.map (eInt .u32) y4.Den.Limbs))],[.d (.bool y7.Neg),.d (.list (List.map (eInt .u32) y7.Limbs))],[.d (.bool v1.Neg),.d (.list (List.map (eInt .u32) v1.Limbs))]],[]⟩) (fun _=>rfl) ?_ ?_) h
 refine .cond rfl (fun hb17=>?_) (fun hb17=>?_)
 refine .bind fun y10 hy18=>.bind fun y11 hy19=>.bind fun y12 hy20=>.regionD [] (by kernel_rfl) fun e h=>?_
 simp only [seval,EMQ,SB,ag_29,sz_29,eInt]
 refine Spec.by (it_FromInt64_spec hy18) (by simp only [seval,FMQ,eInt]) ?_
 simp only [seval,EMQ,SB,eInt]
 refine Spec.by (it_Add_spec hy19) (by simp only [seval,FMQ,eInt]) ?_
 simp only [seval,EMQ,SB,eInt]
 refine Spec.by (it_Neg_spec hy20) (by simp only [seval,FMQ,eInt]) ?_
 simp only [seval,EMQ,SB,sz_29,eInt]
 cases h
 simp only [seval,FMQ,eInt,Tryz.results52,ag_29,sz_29]
 refine .skip fun e h=>?_
 cases h
 simp only [seval,FMQ,eInt,Tryz.results52,ag_29,sz_29]
 intro v1
 refine Mir.toK (.seqK (.bind fun y13 hy21=>.bind fun y14 hy22=>.bind fun y15 hy23=>.bind fun y16 hy24=>.regionD [] (by kernel_rfl) fun e h=>?_))
 simp only [seval,EMQ,SB,fld_33_0,sz_31,fld_31_0,sz_29,ag_29,eInt]
 refine Spec.by (it_Mul_spec hy21) (by simp only [seval,FMQ,eInt]) ?_
 simp only [seval,EMQ,SB,ag_29,sz_29,eInt]
 refine Spec.by (it_Add_spec hy22) (by simp only [seval,FMQ,eInt]) ?_
 simp only [seval,EMQ,SB,ag_29,sz_29,eInt]
 refine Spec.by (it_Mul_spec hy23) (by simp only [seval,FMQ,eInt]) ?_
 simp only [seval,EMQ,SB,eInt]
 refine Spec.by (it_DivMod_spec hy24) (by simp only [seval,FMQ,eInt]) ?_
 simp only [seval,EMQ,SB,zero_29,sz_29,eInt]
 refine mU e (.sR fun e h=>?_) h
 simp only [seval,EMQ,ag_29,sz_29,eInt]
 refine mU e (.ret fun e h=>?_) h
 cases h
 simp only [seval,FMQ,eInt,Tryz.results52,ag_29,sz_29]
def dc_Nearest (a0 : ApiRoot) : Option ApiInt := bindO (ra_Frac 1 2) fun (y1 : ApiRat) => bindO (ra_Add a0.A y1) fun (y2 : ApiRat) => bindO (rt_Floor (ApiRoot.mk (ApiRat.mk y2.Num y2.Den) a0.B a0.C)) fun (y3 : ApiInt) => some y3
theorem dc_Nearest_spec {a0 : ApiRoot} {y : ApiInt} (h : dc_Nearest a0 = some y) : Spec gP 13 [.agg [.d (.bool a0.A.Num.Neg), .d (.list (List.map (eInt .u32) a0.A.Num.Limbs)), .d (.bool a0.A.Den.Neg), .d (.list (List.map (eInt .u32) a0.A.Den.Limbs)), .d (.bool a0.B.Num.Neg), .d (.list (List.map (eInt .u32) a0.B.Num.Limbs)), .d (.bool a0.B.Den.Neg), .d (.list (List.map (eInt .u32) a0.B.Den.Limbs)), .d (.bool a0.C.Num.Neg), .d (.list (List.map (eInt .u32) a0.C.Num.Limbs)), .d (.bool a0.C.Den.Neg), .d (.list (List.map (eInt .u32) a0.C.Den.Limbs))]] (.agg [.d (.bool y.Neg), .d (.list (List.map (eInt .u32) y.Limbs))]) := by
 refine spec_mir Tryz.func13 rfl (by kernel_rfl) (by kernel_rfl) (fun y : ApiInt => .agg [.d (.bool y.Neg), .d (.list (List.map (eInt .u32) y.Limbs))]) ?_ h
 unfold dc_Nearest
 simp only [List.replicate, List.length, nS, nA, Tryz.ntmps13, SV]
 refine .sR fun e h=>?_
 simp only [seval,EMQ,zero_29,eInt]
 refine mU e (.seqK (.bind fun y1 hy1=>.bind fun y2 hy2=>.regionD [] (by kernel_rfl) fun e h=>?_)) h
 simp only [seval,EMQ,SB,fld_33_0,sz_31,ag_31,eInt]
 refine Spec.by (ra_Frac_spec hy1) (by simp only [seval,FMQ,eInt]) ?_
 simp only [seval,EMQ,SB,eInt]
 refine Spec.by (ra_Add_spec hy2) (by simp only [seval,FMQ,eInt]) ?_
 simp only [seval,EMQ,SB,fld_33_0,sz_31,eInt]
 refine mU e (.seqK (.bind fun y3 hy3=>.region fun e h=>?_)) h
 simp only [seval,EMQ,ag_33,sz_33,eInt]
 refine SpecS.by (rt_Floor_spec hy3) (by simp only [seval,FMQ,eInt]) ?_
 simp only [seval,EMQ,sz_29,eInt]
 refine mU e (.ret fun e h=>?_) h
 cases h
 simp only [seval,FMQ,eInt,Tryz.results13,ag_29,sz_29]
def dc_Down (a0 : ApiRoot) : Option ApiInt := bindO (rt_Floor a0) fun (y1 : ApiInt) => some y1
theorem dc_Down_spec {a0 : ApiRoot} {y : ApiInt} (h : dc_Down a0 = some y) : Spec gP 15 [.agg [.d (.bool a0.A.Num.Neg), .d (.list (List.map (eInt .u32) a0.A.Num.Limbs)), .d (.bool a0.A.Den.Neg), .d (.list (List.map (eInt .u32) a0.A.Den.Limbs)), .d (.bool a0.B.Num.Neg), .d (.list (List.map (eInt .u32) a0.B.Num.Limbs)), .d (.bool a0.B.Den.Neg), .d (.list (List.map (eInt .u32) a0.B.Den.Limbs)), .d (.bool a0.C.Num.Neg), .d (.list (List.map (eInt .u32) a0.C.Num.Limbs)), .d (.bool a0.C.Den.Neg), .d (.list (List.map (eInt .u32) a0.C.Den.Limbs))]] (.agg [.d (.bool y.Neg), .d (.list (List.map (eInt .u32) y.Limbs))]) := by
 refine spec_mir Tryz.func15 rfl (by kernel_rfl) (by kernel_rfl) (fun y : ApiInt => .agg [.d (.bool y.Neg), .d (.list (List.map (eInt .u32) y.Limbs))]) ?_ h
 unfold dc_Down
 simp only [List.replicate, List.length, nS, nA, Tryz.ntmps15, SV]
 refine .sR fun e h=>?_
 simp only [seval,EMQ,zero_29,eInt]
 refine mU e (.seqK (.bind fun y1 hy1=>.region fun e h=>?_)) h
 simp only [seval,EMQ,ag_33,sz_33,eInt]
 refine SpecS.by (rt_Floor_spec hy1) (by simp only [seval,FMQ,eInt]) ?_
 simp only [seval,EMQ,sz_29,eInt]
 refine mU e (.ret fun e h=>?_) h
 cases h
 simp only [seval,FMQ,eInt,Tryz.results15,ag_29,sz_29]
def ra_Neg (a0 : ApiRat) : Option ApiRat := bindO (it_Neg a0.Num) fun (y1 : ApiInt) => some (ApiRat.mk y1 a0.Den)
theorem ra_Neg_spec {a0 : ApiRat} {y : ApiRat} (h : ra_Neg a0 = some y) : Spec gP 107 [.agg [.d (.bool a0.Num.Neg), .d (.list (List.map (eInt .u32) a0.Num.Limbs)), .d (.bool a0.Den.Neg), .d (.list (List.map (eInt .u32) a0.Den.Limbs))]] (.agg [.d (.bool y.Num.Neg), .d (.list (List.map (eInt .u32) y.Num.Limbs)), .d (.bool y.Den.Neg), .d (.list (List.map (eInt .u32) y.Den.Limbs))]) := by
 refine spec_mir Tryz.func107 rfl (by kernel_rfl) (by kernel_rfl) (fun y : ApiRat => .agg [.d (.bool y.Num.Neg), .d (.list (List.map (eInt .u32) y.Num.Limbs)), .d (.bool y.Den.Neg), .d (.list (List.map (eInt .u32) y.Den.Limbs))]) ?_ h
 unfold ra_Neg
 simp only [List.replicate, List.length, nS, nA, Tryz.ntmps107, SV]
 refine .sR fun e h=>?_
 simp only [seval,EMQ,zero_31,eInt]
 refine mU e (.seqK (.bind fun y1 hy1=>.regionD [] (by kernel_rfl) fun e h=>?_)) h
 simp only [seval,EMQ,SB,fld_31_0,sz_29,ag_29,eInt]
 refine Spec.by (it_Neg_spec hy1) (by simp only [seval,FMQ,eInt]) ?_
 simp only [seval,EMQ,SB,fld_31_1,sz_29,ag_29,zero_31,pl_31,sz_31,eInt]
 refine mU e (.ret fun e h=>?_) h
 cases h
 simp only [seval,FMQ,eInt,Tryz.results107,ag_31,sz_31]
def rt_Neg (a0 : ApiRoot) : Option ApiRoot := bindO (ra_Neg a0.A) fun (y1 : ApiRat) => bindO (ra_Neg a0.B) fun (y2 : ApiRat) => some (ApiRoot.mk y1 y2 a0.C)
theorem rt_Neg_spec {a0 : ApiRoot} {y : ApiRoot} (h : rt_Neg a0 = some y) : Spec gP 57 [.agg [.d (.bool a0.A.Num.Neg), .d (.list (List.map (eInt .u32) a0.A.Num.Limbs)), .d (.bool a0.A.Den.Neg), .d (.list (List.map (eInt .u32) a0.A.Den.Limbs)), .d (.bool a0.B.Num.Neg), .d (.list (List.map (eInt .u32) a0.B.Num.Limbs)), .d (.bool a0.B.Den.Neg), .d (.list (List.map (eInt .u32) a0.B.Den.Limbs)), .d (.bool a0.C.Num.Neg), .d (.list (List.map (eInt .u32) a0.C.Num.Limbs)), .d (.bool a0.C.Den.Neg), .d (.list (List.map (eInt .u32) a0.C.Den.Limbs))]] (.agg [.d (.bool y.A.Num.Neg), .d (.list (List.map (eInt .u32) y.A.Num.Limbs)), .d (.bool y.A.Den.Neg), .d (.list (List.map (eInt .u32) y.A.Den.Limbs)), .d (.bool y.B.Num.Neg), .d (.list (List.map (eInt .u32) y.B.Num.Limbs)), .d (.bool y.B.Den.Neg), .d (.list (List.map (eInt .u32) y.B.Den.Limbs)), .d (.bool y.C.Num.Neg), .d (.list (List.map (eInt .u32) y.C.Num.Limbs)), .d (.bool y.C.Den.Neg), .d (.list (List.map (eInt .u32) y.C.Den.Limbs))]) := by
 refine spec_mir Tryz.func57 rfl (by kernel_rfl) (by kernel_rfl) (fun y : ApiRoot => .agg [.d (.bool y.A.Num.Neg), .d (.list (List.map (eInt .u32) y.A.Num.Limbs)), .d (.bool y.A.Den.Neg), .d (.list (List.map (eInt .u32) y.A.Den.Limbs)), .d (.bool y.B.Num.Neg), .d (.list (List.map (eInt .u32) y.B.Num.Limbs)), .d (.bool y.B.Den.Neg), .d (.list (List.map (eInt .u32) y.B.Den.Limbs)), .d (.bool y.C.Num.Neg), .d (.list (List.map (eInt .u32) y.C.Num.Limbs)), .d (.bool y.C.Den.Neg), .d (.list (List.map (eInt .u32) y.C.Den.Limbs))]) ?_ h
 unfold rt_Neg
 simp only [List.replicate, List.length, nS, nA, Tryz.ntmps57, SV]
 refine .sR fun e h=>?_
 simp only [seval,EMQ,zero_33,eInt]
 refine mU e (.seqK (.bind fun y1 hy1=>.bind fun y2 hy2=>.regionD [] (by kernel_rfl) fun e h=>?_)) h
 simp only [seval,EMQ,SB,fld_33_0,sz_31,ag_31,eInt]
 refine Spec.by (ra_Neg_spec hy1) (by simp only [seval,FMQ,eInt]) ?_
 simp only [seval,EMQ,SB,fld_33_1,sz_31,ag_31,eInt]
 refine Spec.by (ra_Neg_spec hy2) (by simp only [seval,FMQ,eInt]) ?_
 simp only [seval,EMQ,SB,fld_33_2,sz_31,ag_31,zero_33,pl_33,sz_33,eInt]
 refine mU e (.ret fun e h=>?_) h
 cases h
 simp only [seval,FMQ,eInt,Tryz.results57,ag_33,sz_33]
def dc_Up (a0 : ApiRoot) : Option ApiInt := bindO (rt_Neg (ApiRoot.mk a0.A a0.B a0.C)) fun (y1 : ApiRoot) => bindO (rt_Floor y1) fun (y2 : ApiInt) => bindO (it_Neg y2) fun (y3 : ApiInt) => some y3
theorem dc_Up_spec {a0 : ApiRoot} {y : ApiInt} (h : dc_Up a0 = some y) : Spec gP 17 [.agg [.d (.bool a0.A.Num.Neg), .d (.list (List.map (eInt .u32) a0.A.Num.Limbs)), .d (.bool a0.A.Den.Neg), .d (.list (List.map (eInt .u32) a0.A.Den.Limbs)), .d (.bool a0.B.Num.Neg), .d (.list (List.map (eInt .u32) a0.B.Num.Limbs)), .d (.bool a0.B.Den.Neg), .d (.list (List.map (eInt .u32) a0.B.Den.Limbs)), .d (.bool a0.C.Num.Neg), .d (.list (List.map (eInt .u32) a0.C.Num.Limbs)), .d (.bool a0.C.Den.Neg), .d (.list (List.map (eInt .u32) a0.C.Den.Limbs))]] (.agg [.d (.bool y.Neg), .d (.list (List.map (eInt .u32) y.Limbs))]) := by
 refine spec_mir Tryz.func17 rfl (by kernel_rfl) (by kernel_rfl) (fun y : ApiInt => .agg [.d (.bool y.Neg), .d (.list (List.map (eInt .u32) y.Limbs))]) ?_ h
 unfold dc_Up
 simp only [List.replicate, List.length, nS, nA, Tryz.ntmps17, SV]
 refine .sR fun e h=>?_
 simp only [seval,EMQ,zero_29,eInt]
 refine mU e (.seqK (.bind fun y1 hy1=>.bind fun y2 hy2=>.bind fun y3 hy3=>.region fun e h=>?_)) h
 simp only [seval,EMQ,ag_33,sz_33,eInt]
 refine SpecS.by (rt_Neg_spec hy1) (by simp only [seval,FMQ,eInt]) ?_
 simp only [seval,EMQ,eInt]
 refine SpecS.by (rt_Floor_spec hy2) (by simp only [seval,FMQ,eInt]) ?_
 simp only [seval,EMQ,eInt]
 refine SpecS.by (it_Neg_spec hy3) (by simp only [seval,FMQ,eInt]) ?_
 simp only [seval,EMQ,sz_29,eInt]
 refine mU e (.ret fun e h=>?_) h
 cases h
 simp only [seval,FMQ,eInt,Tryz.results17,ag_29,sz_29]
def r02_Of (a0 : ApiInt) (a1 : ApiInt) : Option ApiRat := bindO (r01_Sign a1) fun (y1 : Int) => bindO (if (decide (y1 < 0)) = true then bindO (r01_Neg a0) fun (y2 : ApiInt) => bindO (r01_Neg a1) fun (y3 : ApiInt) => some (y2, y3) else some (a0, a1)) fun (v1 : ApiInt × ApiInt) => bindO (r01_GCD v1.1 v1.2) fun (y4 : ApiInt) => bindO (r01_DivMod v1.1 y4) fun (y5 : ApiInt × ApiInt × Int) => bindO (r01_DivMod v1.2 y4) fun (y6 : ApiInt × ApiInt × Int) => some (ApiRat.mk y5.1 y6.1)
theorem r02_Of_spec {a0 : ApiInt} {a1 : ApiInt} {y : ApiRat} (h : r02_Of a0 a1 = some y) : Spec gP 78 [.agg [.d (.bool a0.Neg), .d (.list (List.map (eInt .u32) a0.Limbs))], .agg [.d (.bool a1.Neg), .d (.list (List.map (eInt .u32) a1.Limbs))]] (.agg [.d (.bool y.Num.Neg), .d (.list (List.map (eInt .u32) y.Num.Limbs)), .d (.bool y.Den.Neg), .d (.list (List.map (eInt .u32) y.Den.Limbs))]) := by
 refine spec_mir Tryz.func78 rfl (by kernel_rfl) (by kernel_rfl) (fun y : ApiRat => .agg [.d (.bool y.Num.Neg), .d (.list (List.map (eInt .u32) y.Num.Limbs)), .d (.bool y.Den.Neg), .d (.list (List.map (eInt .u32) y.Den.Limbs))]) ?_ h
 unfold r02_Of
 simp only [List.replicate, List.length, nS, nA, Tryz.ntmps78, SV]
 refine .sR fun e h=>?_
 simp only [seval,EMQ,zero_31,eInt]
 refine mU e (.seqK (.seqK (.bind fun y1 hy1=>.region fun e h=>?_))) h
 simp only [seval,EMQ,ag_29,sz_29,eInt]
 refine SpecS.by (r01_Sign_spec hy1) (by simp only [seval,FMQ,eInt]) ?_
 simp only [seval,EMQ,eInt]
 refine mU e (Mir.joinO (fun v1 : ApiInt × ApiInt=>([U,U,.ptr 0 0,.ptr 1 0,.ptr 2 0] ++ us 34)) (fun v1=>⟨[[.d (.bool v1.1.Neg),.d (.list (List.map (eInt .u32) v1.1.Limbs))],[.d (.bool v1.2.Neg),.d (.list (List.map (eInt .u32) v1.2.Limbs))],[.d (.bool false),.nil,.d (.bool false),.nil]],[]⟩) (fun _=>rfl) ?_ ?_) h
 refine .cond rfl (fun hb5=>?_) (fun hb5=>?_)
 refine .bind fun y2 hy6=>.bind fun y3 hy7=>.regionD [] (by kernel_rfl) fun e h=>?_
 simp only [seval,EMQ,SB,ag_29,sz_29,eInt]
 refine Spec.by (r01_Neg_spec hy6) (by simp only [seval,FMQ,eInt]) ?_
 simp only [seval,EMQ,SB,ag_29,sz_29,eInt]
 refine Spec.by (r01_Neg_spec hy7) (by simp only [seval,FMQ,eInt]) ?_
 simp only [seval,EMQ,SB,sz_29,eInt]
 cases h
 simp only [seval,FMQ,eInt,Tryz.results78,ag_31,sz_31]
 refine .skip fun e h=>?_
 cases h
 simp only [seval,FMQ,eInt,Tryz.results78,ag_31,sz_31]
 intro v1
 refine Mir.toK (.seqK (.bind fun y4 hy8=>.region fun e h=>?_))
 simp only [seval,EMQ,ag_29,sz_29,eInt]
 refine SpecS.by (r01_GCD_spec hy8) (by simp only [seval,FMQ,eInt]) ?_
 simp only [seval,EMQ,zero_29,sz_29,eInt]
 refine mU e (.seqK (.bind fun y5 hy9=>.region fun e h=>?_)) h
 simp only [seval,EMQ,ag_29,sz_29,eInt]
 refine SpecS.by (r01_DivMod_spec hy9) (by simp only [seval,FMQ,eInt]) ?_
 simp only [seval,EMQ,zero_29,sz_29,eInt]
 refine mU e (.seqK (.bind fun y6 hy10=>.region fun e h=>?_)) h
 simp only [seval,EMQ,ag_29,sz_29,eInt]
 refine SpecS.by (r01_DivMod_spec hy10) (by simp only [seval,FMQ,eInt]) ?_
 simp only [seval,EMQ,zero_29,sz_29,eInt]
 refine mU e (.sR fun e h=>?_) h
 simp only [seval,EMQ,ag_29,sz_29,zero_31,pl_31,sz_31,eInt]
 refine mU e (.ret fun e h=>?_) h
 cases h
 simp only [seval,FMQ,eInt,Tryz.results78,ag_31,sz_31]
def r02_Frac (a0 : Int) (a1 : Int) : Option ApiRat := bindO (if (a1 == 0) = true then some (0, 1) else some (a0, a1)) fun (v1 : Int × Int) => bindO (r01_FromInt64 v1.1) fun (y1 : ApiInt) => bindO (r01_FromInt64 v1.2) fun (y2 : ApiInt) => bindO (r02_Of y1 y2) fun (y3 : ApiRat) => some y3
theorem r02_Frac_spec {a0 : Int} {a1 : Int} {y : ApiRat} (h : r02_Frac a0 a1 = some y) : Spec gP 36 [.d (.int .i64 a0), .d (.int .i64 a1)] (.agg [.d (.bool y.Num.Neg), .d (.list (List.map (eInt .u32) y.Num.Limbs)), .d (.bool y.Den.Neg), .d (.list (List.map (eInt .u32) y.Den.Limbs))]) := by
 refine spec_mir Tryz.func36 rfl (by kernel_rfl) (by kernel_rfl) (fun y : ApiRat => .agg [.d (.bool y.Num.Neg), .d (.list (List.map (eInt .u32) y.Num.Limbs)), .d (.bool y.Den.Neg), .d (.list (List.map (eInt .u32) y.Den.Limbs))]) ?_ h
 unfold r02_Frac
 simp only [List.replicate, List.length, nS, nA, Tryz.ntmps36, SV]
 refine .sR fun e h=>?_
 simp only [seval,EMQ,zero_31]
 refine mU e (.seqK (.sR fun e h=>?_)) h
 simp only [seval,EMQ]
 refine mU e (Mir.joinO (fun v1 : Int × Int=>([.d (.int .i64 v1.1),.d (.int .i64 v1.2),U,U,.ptr 0 0] ++ us 7)) (fun v1=>⟨[[.d (.bool false),.nil,.d (.bool false),.nil]],[]⟩) (fun _=>rfl) ?_ ?_) h
 refine .cond rfl (fun hb2=>?_) (fun hb2=>?_)
 refine .region fun e h=>?_
 simp only [seval,EMQ]
 cases h
 simp only [seval,FMQ,Tryz.results36,ag_31,sz_31]
 refine .skip fun e h=>?_
 cases h
 simp only [seval,FMQ,Tryz.results36,ag_31,sz_31]
 intro v1
 refine Mir.toK (.seqK (.bind fun y1 hy3=>.bind fun y2 hy4=>.bind fun y3 hy5=>.region fun e h=>?_))
 simp only [seval,EMQ]
 refine SpecS.by (r01_FromInt64_spec hy3) (by simp only [seval,FMQ]) ?_
 simp only [seval,EMQ]
 refine SpecS.by (r01_FromInt64_spec hy4) (by simp only [seval,FMQ]) ?_
 simp only [seval,EMQ]
 refine SpecS.by (r02_Of_spec hy5) (by simp only [seval,FMQ]) ?_
 simp only [seval,EMQ,sz_31]
 refine mU e (.ret fun e h=>?_) h
 cases h
 simp only [seval,FMQ,Tryz.results36,ag_31,sz_31]
def r02_Add (a0 : ApiRat) (a1 : ApiRat) : Option ApiRat := bindO (r01_Mul a0.Num a1.Den) fun (y1 : ApiInt) => bindO (r01_Mul a1.Num a0.Den) fun (y2 : ApiInt) => bindO (r01_Add y1 y2) fun (y3 : ApiInt) => bindO (r01_Mul a0.Den a1.Den) fun (y4 : ApiInt) => bindO (r02_Of y3 y4) fun (y5 : ApiRat) => some y5
theorem r02_Add_spec {a0 : ApiRat} {a1 : ApiRat} {y : ApiRat} (h : r02_Add a0 a1 = some y) : Spec gP 77 [.agg [.d (.bool a0.Num.Neg), .d (.list (List.map (eInt .u32) a0.Num.Limbs)), .d (.bool a0.Den.Neg), .d (.list (List.map (eInt .u32) a0.Den.Limbs))], .agg [.d (.bool a1.Num.Neg), .d (.list (List.map (eInt .u32) a1.Num.Limbs)), .d (.bool a1.Den.Neg), .d (.list (List.map (eInt .u32) a1.Den.Limbs))]] (.agg [.d (.bool y.Num.Neg), .d (.list (List.map (eInt .u32) y.Num.Limbs)), .d (.bool y.Den.Neg), .d (.list (List.map (eInt .u32) y.Den.Limbs))]) := by
 refine spec_mir Tryz.func77 rfl (by kernel_rfl) (by kernel_rfl) (fun y : ApiRat => .agg [.d (.bool y.Num.Neg), .d (.list (List.map (eInt .u32) y.Num.Limbs)), .d (.bool y.Den.Neg), .d (.list (List.map (eInt .u32) y.Den.Limbs))]) ?_ h
 unfold r02_Add
 simp only [List.replicate, List.length, nS, nA, Tryz.ntmps77, SV]
 refine .sR fun e h=>?_
 simp only [seval,EMQ,zero_31,eInt]
 refine mU e (.seqK (.bind fun y1 hy1=>.region fun e h=>?_)) h
 simp only [seval,EMQ,fld_31_0,sz_29,ag_29,fld_31_1,eInt]
 refine SpecS.by (r01_Mul_spec hy1) (by simp only [seval,FMQ,eInt]) ?_
 simp only [seval,EMQ,zero_29,sz_29,eInt]
 refine mU e (.seqK (.bind fun y2 hy2=>.region fun e h=>?_)) h
 simp only [seval,EMQ,fld_31_0,sz_29,ag_29,fld_31_1,eInt]
 refine SpecS.by (r01_Mul_spec hy2) (by simp only [seval,FMQ,eInt]) ?_
 simp only [seval,EMQ,zero_29,sz_29,eInt]
 refine mU e (.seqK (.bind fun y3 hy3=>.bind fun y4 hy4=>.bind fun y5 hy5=>.regionD [] (by kernel_rfl) fun e h=>?_)) h
 simp only [seval,EMQ,SB,ag_29,sz_29,eInt]
 refine Spec.by (r01_Add_spec hy3) (by simp only [seval,FMQ,eInt]) ?_
 simp only [seval,EMQ,SB,fld_31_1,sz_29,ag_29,eInt]
 refine Spec.by (r01_Mul_spec hy4) (by simp only [seval,FMQ,eInt]) ?_
 simp only [seval,EMQ,SB,eInt]
 refine Spec.by (r02_Of_spec hy5) (by simp only [seval,FMQ,eInt]) ?_
 simp only [seval,EMQ,SB,sz_31,eInt]
 refine mU e (.ret fun e h=>?_) h
 cases h
 simp only [seval,FMQ,eInt,Tryz.results77,ag_31,sz_31]
def r02_Sign (a0 : ApiRat) : Option Int := bindO (r01_Sign a0.Num) fun (y1 : Int) => some y1
theorem r02_Sign_spec {a0 : ApiRat} {y : Int} (h : r02_Sign a0 = some y) : Spec gP 91 [.agg [.d (.bool a0.Num.Neg), .d (.list (List.map (eInt .u32) a0.Num.Limbs)), .d (.bool a0.Den.Neg), .d (.list (List.map (eInt .u32) a0.Den.Limbs))]] (.d (.int .i64 y)) := by
 refine spec_mir Tryz.func91 rfl (by kernel_rfl) (by kernel_rfl) (fun y : Int => .d (.int .i64 y)) ?_ h
 unfold r02_Sign
 simp only [List.replicate, List.length, nS, nA, Tryz.ntmps91, SV]
 refine .sR fun e h=>?_
 simp only [seval,EMQ,eInt]
 refine mU e (.seqK (.bind fun y1 hy1=>.region fun e h=>?_)) h
 simp only [seval,EMQ,fld_31_0,sz_29,ag_29,eInt]
 refine SpecS.by (r01_Sign_spec hy1) (by simp only [seval,FMQ,eInt]) ?_
 simp only [seval,EMQ,eInt]
 refine mU e (.ret fun e h=>?_) h
 cases h
 simp only [seval,FMQ,eInt,Tryz.results91]
def r02_Mul (a0 : ApiRat) (a1 : ApiRat) : Option ApiRat := bindO (r01_Mul a0.Num a1.Num) fun (y1 : ApiInt) => bindO (r01_Mul a0.Den a1.Den) fun (y2 : ApiInt) => bindO (r02_Of y1 y2) fun (y3 : ApiRat) => some y3
theorem r02_Mul_spec {a0 : ApiRat} {a1 : ApiRat} {y : ApiRat} (h : r02_Mul a0 a1 = some y) : Spec gP 33 [.agg [.d (.bool a0.Num.Neg), .d (.list (List.map (eInt .u32) a0.Num.Limbs)), .d (.bool a0.Den.Neg), .d (.list (List.map (eInt .u32) a0.Den.Limbs))], .agg [.d (.bool a1.Num.Neg), .d (.list (List.map (eInt .u32) a1.Num.Limbs)), .d (.bool a1.Den.Neg), .d (.list (List.map (eInt .u32) a1.Den.Limbs))]] (.agg [.d (.bool y.Num.Neg), .d (.list (List.map (eInt .u32) y.Num.Limbs)), .d (.bool y.Den.Neg), .d (.list (List.map (eInt .u32) y.Den.Limbs))]) := by
 refine spec_mir Tryz.func33 rfl (by kernel_rfl) (by kernel_rfl) (fun y : ApiRat => .agg [.d (.bool y.Num.Neg), .d (.list (List.map (eInt .u32) y.Num.Limbs)), .d (.bool y.Den.Neg), .d (.list (List.map (eInt .u32) y.Den.Limbs))]) ?_ h
 unfold r02_Mul
 simp only [List.replicate, List.length, nS, nA, Tryz.ntmps33, SV]
 refine .sR fun e h=>?_
 simp only [seval,EMQ,zero_31,eInt]
 refine mU e (.seqK (.bind fun y1 hy1=>.bind fun y2 hy2=>.bind fun y3 hy3=>.regionD [] (by kernel_rfl) fun e h=>?_)) h
 simp only [seval,EMQ,SB,fld_31_0,sz_29,ag_29,eInt]
 refine Spec.by (r01_Mul_spec hy1) (by simp only [seval,FMQ,eInt]) ?_
 simp only [seval,EMQ,SB,fld_31_1,sz_29,ag_29,eInt]
 refine Spec.by (r01_Mul_spec hy2) (by simp only [seval,FMQ,eInt]) ?_
 simp only [seval,EMQ,SB,eInt]
 refine Spec.by (r02_Of_spec hy3) (by simp only [seval,FMQ,eInt]) ?_
 simp only [seval,EMQ,SB,sz_31,eInt]
 refine mU e (.ret fun e h=>?_) h
 cases h
 simp only [seval,FMQ,eInt,Tryz.results33,ag_31,sz_31]
def r02_perfect (a0 : ApiInt) : Option (ApiInt × Bool) := bindO (r01_Sqrt a0) fun (y1 : ApiInt × Int) => bindO (if (y1.2 == 0) = true then bindO (r01_Mul y1.1 y1.1) fun (y2 : ApiInt) => bindO (r01_Same y2 a0) fun (y3 : Bool) => some y3 else some false) fun (v1 : Bool) => some (y1.1, v1)
theorem r02_perfect_spec {a0 : ApiInt} {y : ApiInt × Bool} (h : r02_perfect a0 = some y) : Spec gP 139 [.agg [.d (.bool a0.Neg), .d (.list (List.map (eInt .u32) a0.Limbs))]] (.tuple [.agg [.d (.bool y.1.Neg), .d (.list (List.map (eInt .u32) y.1.Limbs))], .d (.bool y.2)]) := by
 refine spec_mir Tryz.func139 rfl (by kernel_rfl) (by kernel_rfl) (fun y : ApiInt × Bool => .tuple [.agg [.d (.bool y.1.Neg), .d (.list (List.map (eInt .u32) y.1.Limbs))], .d (.bool y.2)]) ?_ h
 unfold r02_perfect
 simp only [List.replicate, List.length, nS, nA, Tryz.ntmps139, SV]
 refine .sR fun e h=>?_
 simp only [seval,EMQ,zero_29,eInt]
 refine mU e (.seqK (.bind fun y1 hy1=>.region fun e h=>?_)) h
 simp only [seval,EMQ,ag_29,sz_29,eInt]
 refine SpecS.by (r01_Sqrt_spec hy1) (by simp only [seval,FMQ,eInt]) ?_
 simp only [seval,EMQ,zero_29,sz_29,eInt]
 refine mU e (.seqK (Mir.joinO (fun v1 : Bool=>([U,U,.ptr 1 0,.d (.bool v1)] ++ us 17)) (fun v1=>⟨[[.d (.bool a0.Neg),.d (.list (List.map (eInt .u32) a0.Limbs))],[.d (.bool y1.1.Neg),.d (.list (List.map (eInt .u32) y1.1.Limbs))],[.d (.bool y1.1.Neg),.d (.list (List.map (eInt .u32) y1.1.Limbs))]],[]⟩) (fun _=>rfl) ?_ ?_)) h
 refine .ite (fun hb2=>?_) (fun hb2=>?_)
 refine .bind fun y2 hy3=>.bind fun y3 hy4=>.regionD [] (by kernel_rfl) fun e h=>?_
 simp only [seval,EMQ,SB,ag_29,sz_29,eInt,hb2]
 refine Spec.by (r01_Mul_spec hy3) (by simp only [seval,FMQ,eInt,hb2]) ?_
 simp only [seval,EMQ,SB,ag_29,sz_29,eInt,hb2]
 refine Spec.by (r01_Same_spec hy4) (by simp only [seval,FMQ,eInt,hb2]) ?_
 simp only [seval,EMQ,SB,sz_29,eInt,hb2]
 cases h
 simp only [seval,FMQ,eInt,hb2]
 refine .regionD [] (by kernel_rfl) fun e h=>?_
 simp only [seval,EMQ,SB,ag_29,sz_29,eInt,hb2]
 cases h
 simp only [seval,FMQ,eInt,hb2]
 intro v1
 refine Mir.toK (.ret fun e h=>?_)
 cases h
 simp only [seval,FMQ,eInt,Tryz.results139,ag_29,sz_29]
def r02_Sqrt (a0 : ApiRat) : Option (ApiRat × Bool) := bindO (r02_perfect a0.Num) fun (y1 : ApiInt × Bool) => bindO (r02_perfect a0.Den) fun (y2 : ApiInt × Bool) => if (!y1.2 || (!y2.2)) = true then some (ApiRat.mk (ApiInt.mk false []) (ApiInt.mk false []), false) else some (ApiRat.mk y1.1 y2.1, true)
theorem r02_Sqrt_spec {a0 : ApiRat} {y : ApiRat × Bool} (h : r02_Sqrt a0 = some y) : Spec gP 92 [.agg [.d (.bool a0.Num.Neg), .d (.list (List.map (eInt .u32) a0.Num.Limbs)), .d (.bool a0.Den.Neg), .d (.list (List.map (eInt .u32) a0.Den.Limbs))]] (.tuple [.agg [.d (.bool y.1.Num.Neg), .d (.list (List.map (eInt .u32) y.1.Num.Limbs)), .d (.bool y.1.Den.Neg), .d (.list (List.map (eInt .u32) y.1.Den.Limbs))], .d (.bool y.2)]) := by
 refine spec_mir Tryz.func92 rfl (by kernel_rfl) (by kernel_rfl) (fun y : ApiRat × Bool => .tuple [.agg [.d (.bool y.1.Num.Neg), .d (.list (List.map (eInt .u32) y.1.Num.Limbs)), .d (.bool y.1.Den.Neg), .d (.list (List.map (eInt .u32) y.1.Den.Limbs))], .d (.bool y.2)]) ?_ h
 unfold r02_Sqrt
 simp only [List.replicate, List.length, nS, nA, Tryz.ntmps92, SV]
 refine .sR fun e h=>?_
 simp only [seval,EMQ,zero_31,eInt]
 refine mU e (.seqK (.bind fun y1 hy1=>.region fun e h=>?_)) h
 simp only [seval,EMQ,fld_31_0,sz_29,ag_29,eInt]
 refine SpecS.by (r02_perfect_spec hy1) (by simp only [seval,FMQ,eInt]) ?_
 simp only [seval,EMQ,zero_29,sz_29,eInt]
 refine mU e (.seqK (.bind fun y2 hy2=>.region fun e h=>?_)) h
 simp only [seval,EMQ,fld_31_1,sz_29,ag_29,eInt]
 refine SpecS.by (r02_perfect_spec hy2) (by simp only [seval,FMQ,eInt]) ?_
 simp only [seval,EMQ,zero_29,sz_29,eInt]
 refine mU e (.seqK (.seqK (.joinV ([U,U,.ptr 1 0,U,.ptr 2 0,U,.ptr 3 0,U,U,U,U,U,U,U,U,U,U,U,U,U,U,U,U,U,U,.d (.bool (!y1.2 || (!y2.2)))] ++ us 4) ⟨[[.d (.bool a0.Num.Neg),.d (.list (List.map (eInt .u32) a0.Num.Limbs)),.d (.bool a0.Den.Neg),.d (.list (List.map (eInt .u32) a0.Den.Limbs))],[.d (.bool false),.nil,.d (.bool false),.nil],[.d (.bool y1.1.Neg),.d (.list (List.map (eInt .u32) y1.1.Limbs))],[.d (.bool y2.1.Neg),.d (.list (List.map (eInt .u32) y2.1.Limbs))]],[]⟩ rfl ?_ ?_))) h
 refine SWs.region ?_
 rcases Bool.eq_false_or_eq_true (y1.2) with hb3 | hb3
 simp only [seval,EMQ,SL,PB,hb3,eInt]
 simp only [seval,EMQ,SL,PB,hb3,eInt]
 refine Mir.toK (.cond rfl (fun hb5=>?_) (fun hb5=>?_))
 refine .sR fun e h=>?_
 simp only [seval,EMQ,zero_31,pl_31,sz_31,eInt]
 refine mU e (.ret fun e h=>?_) h
 cases h
 simp only [seval,FMQ,eInt,Tryz.results92,ag_31,sz_31]
 refine .skip (Mir.toK (.sR fun e h=>?_))
 simp only [seval,EMQ,ag_29,sz_29,zero_31,pl_31,sz_31,eInt]
 refine mU e (.ret fun e h=>?_) h
 cases h
 simp only [seval,FMQ,eInt,Tryz.results92,ag_31,sz_31]
def r02_unit  : Option ApiInt := bindO (r01_FromInt64 1) fun (y1 : ApiInt) => some y1
theorem r02_unit_spec  {y : ApiInt} (h : r02_unit = some y) : Spec gP 62 [] (.agg [.d (.bool y.Neg), .d (.list (List.map (eInt .u32) y.Limbs))]) := by
 refine spec_mir Tryz.func62 rfl (by kernel_rfl) (by kernel_rfl) (fun y : ApiInt => .agg [.d (.bool y.Neg), .d (.list (List.map (eInt .u32) y.Limbs))]) ?_ h
 unfold r02_unit
 simp only [List.replicate, List.length, nS, nA, Tryz.ntmps62, SV]
 refine .sR fun e h=>?_
 simp only [seval,EMQ,zero_29]
 refine mU e (.seqK (.bind fun y1 hy1=>.region fun e h=>?_)) h
 simp only [seval,EMQ]
 refine SpecS.by (r01_FromInt64_spec hy1) (by simp only [seval,FMQ]) ?_
 simp only [seval,EMQ,sz_29]
 refine mU e (.ret fun e h=>?_) h
 cases h
 simp only [seval,FMQ,Tryz.results62,ag_29,sz_29]
def r02_FromInt64 (a0 : Int) : Option ApiRat := bindO (r01_FromInt64 a0) fun (y1 : ApiInt) => bindO (r02_unit ) fun (y2 : ApiInt) => some (ApiRat.mk y1 y2)
theorem r02_FromInt64_spec {a0 : Int} {y : ApiRat} (h : r02_FromInt64 a0 = some y) : Spec gP 46 [.d (.int .i64 a0)] (.agg [.d (.bool y.Num.Neg), .d (.list (List.map (eInt .u32) y.Num.Limbs)), .d (.bool y.Den.Neg), .d (.list (List.map (eInt .u32) y.Den.Limbs))]) := by
 refine spec_mir Tryz.func46 rfl (by kernel_rfl) (by kernel_rfl) (fun y : ApiRat => .agg [.d (.bool y.Num.Neg), .d (.list (List.map (eInt .u32) y.Num.Limbs)), .d (.bool y.Den.Neg), .d (.list (List.map (eInt .u32) y.Den.Limbs))]) ?_ h
 unfold r02_FromInt64
 simp only [List.replicate, List.length, nS, nA, Tryz.ntmps46, SV]
 refine .sR fun e h=>?_
 simp only [seval,EMQ,zero_31]
 refine mU e (.seqK (.bind fun y1 hy1=>.bind fun y2 hy2=>.region fun e h=>?_)) h
 simp only [seval,EMQ]
 refine SpecS.by (r01_FromInt64_spec hy1) (by simp only [seval,FMQ]) ?_
 simp only [seval,EMQ]
 refine SpecS.by (r02_unit_spec hy2) (rfl) ?_
 simp only [seval,EMQ,zero_31,pl_31,sz_31]
 refine mU e (.ret fun e h=>?_) h
 cases h
 simp only [seval,FMQ,Tryz.results46,ag_31,sz_31]
def r03_zero  : Option ApiRat := bindO (r02_FromInt64 0) fun (y1 : ApiRat) => some y1
theorem r03_zero_spec  {y : ApiRat} (h : r03_zero = some y) : Spec gP 94 [] (.agg [.d (.bool y.Num.Neg), .d (.list (List.map (eInt .u32) y.Num.Limbs)), .d (.bool y.Den.Neg), .d (.list (List.map (eInt .u32) y.Den.Limbs))]) := by
 refine spec_mir Tryz.func94 rfl (by kernel_rfl) (by kernel_rfl) (fun y : ApiRat => .agg [.d (.bool y.Num.Neg), .d (.list (List.map (eInt .u32) y.Num.Limbs)), .d (.bool y.Den.Neg), .d (.list (List.map (eInt .u32) y.Den.Limbs))]) ?_ h
 unfold r03_zero
 simp only [List.replicate, List.length, nS, nA, Tryz.ntmps94, SV]
 refine .sR fun e h=>?_
 simp only [seval,EMQ,zero_31]
 refine mU e (.seqK (.bind fun y1 hy1=>.region fun e h=>?_)) h
 simp only [seval,EMQ]
 refine SpecS.by (r02_FromInt64_spec hy1) (by simp only [seval,FMQ]) ?_
 simp only [seval,EMQ,sz_31]
 refine mU e (.ret fun e h=>?_) h
 cases h
 simp only [seval,FMQ,Tryz.results94,ag_31,sz_31]
def r03_FromRat (a0 : ApiRat) : Option ApiRoot := bindO (r03_zero ) fun (y1 : ApiRat) => bindO (r03_zero ) fun (y2 : ApiRat) => some (ApiRoot.mk a0 y1 y2)
theorem r03_FromRat_spec {a0 : ApiRat} {y : ApiRoot} (h : r03_FromRat a0 = some y) : Spec gP 48 [.agg [.d (.bool a0.Num.Neg), .d (.list (List.map (eInt .u32) a0.Num.Limbs)), .d (.bool a0.Den.Neg), .d (.list (List.map (eInt .u32) a0.Den.Limbs))]] (.agg [.d (.bool y.A.Num.Neg), .d (.list (List.map (eInt .u32) y.A.Num.Limbs)), .d (.bool y.A.Den.Neg), .d (.list (List.map (eInt .u32) y.A.Den.Limbs)), .d (.bool y.B.Num.Neg), .d (.list (List.map (eInt .u32) y.B.Num.Limbs)), .d (.bool y.B.Den.Neg), .d (.list (List.map (eInt .u32) y.B.Den.Limbs)), .d (.bool y.C.Num.Neg), .d (.list (List.map (eInt .u32) y.C.Num.Limbs)), .d (.bool y.C.Den.Neg), .d (.list (List.map (eInt .u32) y.C.Den.Limbs))]) := by
 refine spec_mir Tryz.func48 rfl (by kernel_rfl) (by kernel_rfl) (fun y : ApiRoot => .agg [.d (.bool y.A.Num.Neg), .d (.list (List.map (eInt .u32) y.A.Num.Limbs)), .d (.bool y.A.Den.Neg), .d (.list (List.map (eInt .u32) y.A.Den.Limbs)), .d (.bool y.B.Num.Neg), .d (.list (List.map (eInt .u32) y.B.Num.Limbs)), .d (.bool y.B.Den.Neg), .d (.list (List.map (eInt .u32) y.B.Den.Limbs)), .d (.bool y.C.Num.Neg), .d (.list (List.map (eInt .u32) y.C.Num.Limbs)), .d (.bool y.C.Den.Neg), .d (.list (List.map (eInt .u32) y.C.Den.Limbs))]) ?_ h
 unfold r03_FromRat
 simp only [List.replicate, List.length, nS, nA, Tryz.ntmps48, SV]
 refine .sR fun e h=>?_
 simp only [seval,EMQ,zero_33,eInt]
 refine mU e (.seqK (.bind fun y1 hy1=>.bind fun y2 hy2=>.regionD [] (by kernel_rfl) fun e h=>?_)) h
 simp only [seval,EMQ,SB,ag_31,sz_31,eInt]
 refine Spec.by (r03_zero_spec hy1) (rfl) ?_
 simp only [seval,EMQ,SB,eInt]
 refine Spec.by (r03_zero_spec hy2) (rfl) ?_
 simp only [seval,EMQ,SB,zero_33,pl_33,sz_33,eInt]
 refine mU e (.ret fun e h=>?_) h
 cases h
 simp only [seval,FMQ,eInt,Tryz.results48,ag_33,sz_33]
def r03_reduced (a0 : ApiRat) (a1 : ApiRat) (a2 : ApiRat) : Option ApiRoot := bindO (bindO (r02_Sign a1) fun (y1 : Int) => if (y1 == 0) = true then some true else bindO (r02_Sign a2) fun (y2 : Int) => some (y2 == 0)) fun (v1 : Bool) => if v1 = true then bindO (r03_FromRat a0) fun (y3 : ApiRoot) => some y3 else some (ApiRoot.mk a0 a1 a2)
theorem r03_reduced_spec {a0 : ApiRat} {a1 : ApiRat} {a2 : ApiRat} {y : ApiRoot} (h : r03_reduced a0 a1 a2 = some y) : Spec gP 93 [.agg [.d (.bool a0.Num.Neg), .d (.list (List.map (eInt .u32) a0.Num.Limbs)), .d (.bool a0.Den.Neg), .d (.list (List.map (eInt .u32) a0.Den.Limbs))], .agg [.d (.bool a1.Num.Neg), .d (.list (List.map (eInt .u32) a1.Num.Limbs)), .d (.bool a1.Den.Neg), .d (.list (List.map (eInt .u32) a1.Den.Limbs))], .agg [.d (.bool a2.Num.Neg), .d (.list (List.map (eInt .u32) a2.Num.Limbs)), .d (.bool a2.Den.Neg), .d (.list (List.map (eInt .u32) a2.Den.Limbs))]] (.agg [.d (.bool y.A.Num.Neg), .d (.list (List.map (eInt .u32) y.A.Num.Limbs)), .d (.bool y.A.Den.Neg), .d (.list (List.map (eInt .u32) y.A.Den.Limbs)), .d (.bool y.B.Num.Neg), .d (.list (List.map (eInt .u32) y.B.Num.Limbs)), .d (.bool y.B.Den.Neg), .d (.list (List.map (eInt .u32) y.B.Den.Limbs)), .d (.bool y.C.Num.Neg), .d (.list (List.map (eInt .u32) y.C.Num.Limbs)), .d (.bool y.C.Den.Neg), .d (.list (List.map (eInt .u32) y.C.Den.Limbs))]) := by
 refine spec_mir Tryz.func93 rfl (by kernel_rfl) (by kernel_rfl) (fun y : ApiRoot => .agg [.d (.bool y.A.Num.Neg), .d (.list (List.map (eInt .u32) y.A.Num.Limbs)), .d (.bool y.A.Den.Neg), .d (.list (List.map (eInt .u32) y.A.Den.Limbs)), .d (.bool y.B.Num.Neg), .d (.list (List.map (eInt .u32) y.B.Num.Limbs)), .d (.bool y.B.Den.Neg), .d (.list (List.map (eInt .u32) y.B.Den.Limbs)), .d (.bool y.C.Num.Neg), .d (.list (List.map (eInt .u32) y.C.Num.Limbs)), .d (.bool y.C.Den.Neg), .d (.list (List.map (eInt .u32) y.C.Den.Limbs))]) ?_ h
 unfold r03_reduced
 simp only [List.replicate, List.length, nS, nA, Tryz.ntmps93, SV]
 refine .sR fun e h=>?_
 simp only [seval,EMQ,zero_33,eInt]
 refine mU e (.seqK (.seqK (Mir.joinO (fun v1 : Bool=>([U,U,U,.ptr 0 0,.ptr 1 0,.ptr 2 0,.ptr 3 0,U,U,U,U,U,U,U,.d (.bool v1)] ++ us 6)) (fun v1=>⟨[[.d (.bool a0.Num.Neg),.d (.list (List.map (eInt .u32) a0.Num.Limbs)),.d (.bool a0.Den.Neg),.d (.list (List.map (eInt .u32) a0.Den.Limbs))],[.d (.bool a1.Num.Neg),.d (.list (List.map (eInt .u32) a1.Num.Limbs)),.d (.bool a1.Den.Neg),.d (.list (List.map (eInt .u32) a1.Den.Limbs))],[.d (.bool a2.Num.Neg),.d (.list (List.map (eInt .u32) a2.Num.Limbs)),.d (.bool a2.Den.Neg),.d (.list (List.map (eInt .u32) a2.Den.Limbs))],[.d (.bool false),.nil,.d (.bool false),.nil,.d (.bool false),.nil,.d (.bool false),.nil,.d (.bool false),.nil,.d (.bool false),.nil]],[]⟩) (fun _=>rfl) ?_ ?_))) h
 refine .bind fun y1 hy1=>.ite (fun hb2=>?_) (fun hb2=>?_)
 refine .region fun e h=>?_
 simp only [seval,EMQ,ag_31,sz_31,eInt,hb2]
 refine SpecS.by (r02_Sign_spec hy1) (by simp only [seval,FMQ,eInt,hb2]) ?_
 simp only [seval,EMQ,eInt,hb2]
 cases h
 simp only [seval,FMQ,eInt,hb2]
 refine .bind fun y2 hy3=>.region fun e h=>?_
 simp only [seval,EMQ,ag_31,sz_31,eInt,hb2]
 refine SpecS.by (r02_Sign_spec hy1) (by simp only [seval,FMQ,eInt,hb2]) ?_
 simp only [seval,EMQ,ag_31,sz_31,eInt,hb2]
 refine SpecS.by (r02_Sign_spec hy3) (by simp only [seval,FMQ,eInt,hb2]) ?_
 simp only [seval,EMQ,eInt,hb2]
 cases h
 simp only [seval,FMQ,eInt,hb2]
 intro v1
 refine Mir.toK (.cond rfl (fun hb6=>?_) (fun hb6=>?_))
 refine .seqK (.bind fun y3 hy7=>.region fun e h=>?_)
 simp only [seval,EMQ,ag_31,sz_31,eInt]
 refine SpecS.by (r03_FromRat_spec hy7) (by simp only [seval,FMQ,eInt]) ?_
 simp only [seval,EMQ,sz_33,eInt]
 refine mU e (.ret fun e h=>?_) h
 cases h
 simp only [seval,FMQ,eInt,Tryz.results93,ag_33,sz_33]
 refine .skip (Mir.toK (.sR fun e h=>?_))
 simp only [seval,EMQ,ag_31,sz_31,zero_33,pl_33,sz_33,eInt]
 refine mU e (.ret fun e h=>?_) h
 cases h
 simp only [seval,FMQ,eInt,Tryz.results93,ag_33,sz_33]
def r03_Make (a0 : ApiRat) (a1 : ApiRat) (a2 : ApiRat) : Option (ApiRoot × Int) := bindO (r02_Sign a2) fun (y1 : Int) => if (decide (y1 < 0)) = true then some (ApiRoot.mk (ApiRat.mk (ApiInt.mk false []) (ApiInt.mk false [])) (ApiRat.mk (ApiInt.mk false []) (ApiInt.mk false [])) (ApiRat.mk (ApiInt.mk false []) (ApiInt.mk false [])), 7) else bindO (r02_Sqrt a2) fun (y2 : ApiRat × Bool) => if y2.2 = true then bindO (r02_Mul a1 y2.1) fun (y3 : ApiRat) => bindO (r02_Add a0 y3) fun (y4 : ApiRat) => bindO (r03_FromRat y4) fun (y5 : ApiRoot) => some (y5, 0) else bindO (r03_reduced a0 a1 a2) fun (y6 : ApiRoot) => some (y6, 0)
theorem r03_Make_spec {a0 : ApiRat} {a1 : ApiRat} {a2 : ApiRat} {y : ApiRoot × Int} (h : r03_Make a0 a1 a2 = some y) : Spec gP 45 [.agg [.d (.bool a0.Num.Neg), .d (.list (List.map (eInt .u32) a0.Num.Limbs)), .d (.bool a0.Den.Neg), .d (.list (List.map (eInt .u32) a0.Den.Limbs))], .agg [.d (.bool a1.Num.Neg), .d (.list (List.map (eInt .u32) a1.Num.Limbs)), .d (.bool a1.Den.Neg), .d (.list (List.map (eInt .u32) a1.Den.Limbs))], .agg [.d (.bool a2.Num.Neg), .d (.list (List.map (eInt .u32) a2.Num.Limbs)), .d (.bool a2.Den.Neg), .d (.list (List.map (eInt .u32) a2.Den.Limbs))]] (.tuple [.agg [.d (.bool y.1.A.Num.Neg), .d (.list (List.map (eInt .u32) y.1.A.Num.Limbs)), .d (.bool y.1.A.Den.Neg), .d (.list (List.map (eInt .u32) y.1.A.Den.Limbs)), .d (.bool y.1.B.Num.Neg), .d (.list (List.map (eInt .u32) y.1.B.Num.Limbs)), .d (.bool y.1.B.Den.Neg), .d (.list (List.map (eInt .u32) y.1.B.Den.Limbs)), .d (.bool y.1.C.Num.Neg), .d (.list (List.map (eInt .u32) y.1.C.Num.Limbs)), .d (.bool y.1.C.Den.Neg), .d (.list (List.map (eInt .u32) y.1.C.Den.Limbs))], .d (.int .i64 y.2)]) := by
 refine spec_mir Tryz.func45 rfl (by kernel_rfl) (by kernel_rfl) (fun y : ApiRoot × Int => .tuple [.agg [.d (.bool y.1.A.Num.Neg), .d (.list (List.map (eInt .u32) y.1.A.Num.Limbs)), .d (.bool y.1.A.Den.Neg), .d (.list (List.map (eInt .u32) y.1.A.Den.Limbs)), .d (.bool y.1.B.Num.Neg), .d (.list (List.map (eInt .u32) y.1.B.Num.Limbs)), .d (.bool y.1.B.Den.Neg), .d (.list (List.map (eInt .u32) y.1.B.Den.Limbs)), .d (.bool y.1.C.Num.Neg), .d (.list (List.map (eInt .u32) y.1.C.Num.Limbs)), .d (.bool y.1.C.Den.Neg), .d (.list (List.map (eInt .u32) y.1.C.Den.Limbs))], .d (.int .i64 y.2)]) ?_ h
 unfold r03_Make
 simp only [List.replicate, List.length, nS, nA, Tryz.ntmps45, SV]
 refine .sR fun e h=>?_
 simp only [seval,EMQ,zero_33,eInt]
 refine mU e (.seqK (.seqK (.bind fun y1 hy1=>.region fun e h=>?_))) h
 simp only [seval,EMQ,ag_31,sz_31,eInt]
 refine SpecS.by (r02_Sign_spec hy1) (by simp only [seval,FMQ,eInt]) ?_
 simp only [seval,EMQ,eInt]
 refine mU e (.cond rfl (fun hb3=>?_) (fun hb3=>?_)) h
 refine .sR fun e h=>?_
 simp only [seval,EMQ,zero_33,pl_33,sz_33,eInt]
 refine mU e (.ret fun e h=>?_) h
 cases h
 simp only [seval,FMQ,eInt,Tryz.results45,ag_33,sz_33]
 refine .skip (Mir.toK (.seqK (.seqK (.bind fun y2 hy4=>.region fun e h=>?_))))
 simp only [seval,EMQ,ag_31,sz_31,eInt]
 refine SpecS.by (r02_Sqrt_spec hy4) (by simp only [seval,FMQ,eInt]) ?_
 simp only [seval,EMQ,zero_31,sz_31,eInt]
 refine mU e (.sR fun e h=>?_) h
 simp only [seval,EMQ,eInt]
 refine mU e (.cond rfl (fun hb9=>?_) (fun hb9=>?_)) h
 refine .seqK (.bind fun y3 hy10=>.bind fun y4 hy11=>.bind fun y5 hy12=>.regionD [] (by kernel_rfl) fun e h=>?_)
 simp only [seval,EMQ,SB,ag_31,sz_31,eInt]
 refine Spec.by (r02_Mul_spec hy10) (by simp only [seval,FMQ,eInt]) ?_
 simp only [seval,EMQ,SB,eInt]
 refine Spec.by (r02_Add_spec hy11) (by simp only [seval,FMQ,eInt]) ?_
 simp only [seval,EMQ,SB,eInt]
 refine Spec.by (r03_FromRat_spec hy12) (by simp only [seval,FMQ,eInt]) ?_
 simp only [seval,EMQ,SB,sz_33,eInt]
 refine mU e (.ret fun e h=>?_) h
 cases h
 simp only [seval,FMQ,eInt,Tryz.results45,ag_33,sz_33]
 refine .skip (Mir.toK (.seqK (.bind fun y6 hy13=>.region fun e h=>?_)))
 simp only [seval,EMQ,ag_31,sz_31,eInt]
 refine SpecS.by (r03_reduced_spec hy13) (by simp only [seval,FMQ,eInt]) ?_
 simp only [seval,EMQ,sz_33,eInt]
 refine mU e (.ret fun e h=>?_) h
 cases h
 simp only [seval,FMQ,eInt,Tryz.results45,ag_33,sz_33]
def r06_Power (a0 : Int) : Option ApiRat := bindO (r02_FromInt64 1) fun (y1 : ApiRat) => bindO (loopX (fun (v1 : Int × ApiRat) => if (decide (v1.1 < a0)) = true then bindO (r02_FromInt64 10) fun (y2 : ApiRat) => bindO (r02_Mul v1.2 y2) fun (y3 : ApiRat) => some (.go (IntKind.i64.wrap (v1.1 + 1), y3)) else some (.ret v1.2)) fuel (0, y1)) fun (v2 : ApiRat) => some v2
theorem r06_Power_spec {a0 : Int} {y : ApiRat} (h : r06_Power a0 = some y) : Spec gP 35 [.d (.int .i64 a0)] (.agg [.d (.bool y.Num.Neg), .d (.list (List.map (eInt .u32) y.Num.Limbs)), .d (.bool y.Den.Neg), .d (.list (List.map (eInt .u32) y.Den.Limbs))]) := by
 refine spec_mir Tryz.func35 rfl (by kernel_rfl) (by kernel_rfl) (fun y : ApiRat => .agg [.d (.bool y.Num.Neg), .d (.list (List.map (eInt .u32) y.Num.Limbs)), .d (.bool y.Den.Neg), .d (.list (List.map (eInt .u32) y.Den.Limbs))]) ?_ h
 unfold r06_Power
 simp only [List.replicate, List.length, nS, nA, Tryz.ntmps35, SV]
 refine .sR fun e h=>?_
 simp only [seval,EMQ,zero_31]
 refine mU e (.seqK (.bind fun y1 hy1=>.region fun e h=>?_)) h
 simp only [seval,EMQ]
 refine SpecS.by (r02_FromInt64_spec hy1) (by simp only [seval,FMQ]) ?_
 simp only [seval,EMQ,zero_31,sz_31]
 refine mU e (.seqK (.sR fun e h=>?_)) h
 simp only [seval,EMQ]
 refine mU e (Mir.joinO (fun v2 : ApiRat=>([U,U,.ptr 0 0,.ptr 1 0] ++ us 11)) (fun v2=>⟨[[.d (.bool false),.nil,.d (.bool false),.nil],[.d (.bool v2.Num.Neg),.d (.list (List.map (eInt .u32) v2.Num.Limbs)),.d (.bool v2.Den.Neg),.d (.list (List.map (eInt .u32) v2.Den.Limbs))]],[]⟩) (fun _=>rfl) ?_ ?_) h
 refine .block (Mir.loop (fun v1 : Int × ApiRat=>([.d (.int .i64 a0),U,.ptr 0 0,.ptr 1 0,.d (.int .i64 v1.1)] ++ us 10)) (fun v1=>⟨[[.d (.bool false),.nil,.d (.bool false),.nil],[.d (.bool v1.2.Num.Neg),.d (.list (List.map (eInt .u32) v1.2.Num.Limbs)),.d (.bool v1.2.Den.Neg),.d (.list (List.map (eInt .u32) v1.2.Den.Limbs))]],[]⟩) (fun _=>rfl) (by simp only [seval,FMQ]) (by simp only [seval,FMQ]) fun v1=>.seqK (.sR fun e h=>?_))
 simp only [seval,EMQ]
 refine mU e (.cond rfl (fun hb33=>?_) (fun hb33=>?_)) h
 refine .skip (Mir.toK (.seqK (.block (.bind fun y2 hy36=>.bind fun y3 hy37=>.regionD [] (by kernel_rfl) fun e h=>?_))))
 simp only [seval,EMQ,SB,ag_31,sz_31]
 refine Spec.by (r02_FromInt64_spec hy36) (by simp only [seval,FMQ]) ?_
 simp only [seval,EMQ,SB]
 refine Spec.by (r02_Mul_spec hy37) (by simp only [seval,FMQ]) ?_
 simp only [seval,EMQ,SB,sz_31]
 refine mU e (.region fun e h=>?_) h
 simp only [seval,EMQ]
 cases h
 simp only [seval,FMQ,Tryz.results35,ag_31,sz_31]
 refine .exit fun e h=>?_
 cases h
 simp only [seval,FMQ,Tryz.results35,ag_31,sz_31]
 intro v2
 refine Mir.toK (.sR fun e h=>?_)
 simp only [seval,EMQ,ag_31,sz_31]
 refine mU e (.ret fun e h=>?_) h
 cases h
 simp only [seval,FMQ,Tryz.results35,ag_31,sz_31]
def ra_Make (a0 : ApiInt) (a1 : ApiInt) : Option (ApiRat × Int) := bindO (it_Sign a1) fun (y1 : Int) => if (y1 == 0) = true then some (ApiRat.mk (ApiInt.mk false []) (ApiInt.mk false []), 6) else bindO (ra_reduce a0 a1) fun (y2 : ApiRat) => some (y2, 0)
theorem ra_Make_spec {a0 : ApiInt} {a1 : ApiInt} {y : ApiRat × Int} (h : ra_Make a0 a1 = some y) : Spec gP 66 [.agg [.d (.bool a0.Neg), .d (.list (List.map (eInt .u32) a0.Limbs))], .agg [.d (.bool a1.Neg), .d (.list (List.map (eInt .u32) a1.Limbs))]] (.tuple [.agg [.d (.bool y.1.Num.Neg), .d (.list (List.map (eInt .u32) y.1.Num.Limbs)), .d (.bool y.1.Den.Neg), .d (.list (List.map (eInt .u32) y.1.Den.Limbs))], .d (.int .i64 y.2)]) := by
 refine spec_mir Tryz.func66 rfl (by kernel_rfl) (by kernel_rfl) (fun y : ApiRat × Int => .tuple [.agg [.d (.bool y.1.Num.Neg), .d (.list (List.map (eInt .u32) y.1.Num.Limbs)), .d (.bool y.1.Den.Neg), .d (.list (List.map (eInt .u32) y.1.Den.Limbs))], .d (.int .i64 y.2)]) ?_ h
 unfold ra_Make
 simp only [List.replicate, List.length, nS, nA, Tryz.ntmps66, SV]
 refine .sR fun e h=>?_
 simp only [seval,EMQ,zero_31,eInt]
 refine mU e (.seqK (.seqK (.bind fun y1 hy1=>.region fun e h=>?_))) h
 simp only [seval,EMQ,ag_29,sz_29,eInt]
 refine SpecS.by (it_Sign_spec hy1) (by simp only [seval,FMQ,eInt]) ?_
 simp only [seval,EMQ,eInt]
 refine mU e (.cond rfl (fun hb3=>?_) (fun hb3=>?_)) h
 refine .sR fun e h=>?_
 simp only [seval,EMQ,zero_31,pl_31,sz_31,eInt]
 refine mU e (.ret fun e h=>?_) h
 cases h
 simp only [seval,FMQ,eInt,Tryz.results66,ag_31,sz_31]
 refine .skip (Mir.toK (.seqK (.bind fun y2 hy4=>.region fun e h=>?_)))
 simp only [seval,EMQ,ag_29,sz_29,eInt]
 refine SpecS.by (ra_reduce_spec hy4) (by simp only [seval,FMQ,eInt]) ?_
 simp only [seval,EMQ,sz_31,eInt]
 refine mU e (.ret fun e h=>?_) h
 cases h
 simp only [seval,FMQ,eInt,Tryz.results66,ag_31,sz_31]
def dc_power (a0 : Int) : Option ApiInt := bindO (it_FromInt64 1) fun (y1 : ApiInt) => bindO (it_FromInt64 10) fun (y2 : ApiInt) => bindO (loopX (fun (v1 : Int × ApiInt) => if (decide (v1.1 < a0)) = true then bindO (it_Mul v1.2 y2) fun (y3 : ApiInt) => some (.go (IntKind.i64.wrap (v1.1 + 1), y3)) else some (.ret v1.2)) fuel (0, y1)) fun (v2 : ApiInt) => some v2
theorem dc_power_spec {a0 : Int} {y : ApiInt} (h : dc_power a0 = some y) : Spec gP 67 [.d (.int .i64 a0)] (.agg [.d (.bool y.Neg), .d (.list (List.map (eInt .u32) y.Limbs))]) := by
 refine spec_mir Tryz.func67 rfl (by kernel_rfl) (by kernel_rfl) (fun y : ApiInt => .agg [.d (.bool y.Neg), .d (.list (List.map (eInt .u32) y.Limbs))]) ?_ h
 unfold dc_power
 simp only [List.replicate, List.length, nS, nA, Tryz.ntmps67, SV]
 refine .sR fun e h=>?_
 simp only [seval,EMQ,zero_29]
 refine mU e (.seqK (.bind fun y1 hy1=>.region fun e h=>?_)) h
 simp only [seval,EMQ]
 refine SpecS.by (it_FromInt64_spec hy1) (by simp only [seval,FMQ]) ?_
 simp only [seval,EMQ,zero_29,sz_29]
 refine mU e (.seqK (.bind fun y2 hy2=>.region fun e h=>?_)) h
 simp only [seval,EMQ]
 refine SpecS.by (it_FromInt64_spec hy2) (by simp only [seval,FMQ]) ?_
 simp only [seval,EMQ,zero_29,sz_29]
 refine mU e (.seqK (.sR fun e h=>?_)) h
 simp only [seval,EMQ]
 refine mU e (Mir.joinO (fun v2 : ApiInt=>([U,U,.ptr 0 0,.ptr 1 0] ++ us 11)) (fun v2=>⟨[[.d (.bool false),.nil],[.d (.bool v2.Neg),.d (.list (List.map (eInt .u32) v2.Limbs))],[.d (.bool y2.Neg),.d (.list (List.map (eInt .u32) y2.Limbs))]],[]⟩) (fun _=>rfl) ?_ ?_) h
 refine .block (Mir.loop (fun v1 : Int × ApiInt=>([U,U,.ptr 0 0,.ptr 1 0,.ptr 2 0,U,U,.d (.int .i64 a0),.d (.int .i64 v1.1)] ++ us 6)) (fun v1=>⟨[[.d (.bool false),.nil],[.d (.bool v1.2.Neg),.d (.list (List.map (eInt .u32) v1.2.Limbs))],[.d (.bool y2.Neg),.d (.list (List.map (eInt .u32) y2.Limbs))]],[]⟩) (fun _=>rfl) (by simp only [seval,FMQ]) (by simp only [seval,FMQ]) fun v1=>.sR fun e h=>?_)
 simp only [seval,EMQ]
 refine mU e (.seqK (.cond rfl (fun hb24=>?_) (fun hb24=>?_))) h
 refine .skip (Mir.toK (.seqK (.block (.bind fun y3 hy26=>.region fun e h=>?_))))
 simp only [seval,EMQ,ag_29,sz_29]
 refine SpecS.by (it_Mul_spec hy26) (by simp only [seval,FMQ]) ?_
 simp only [seval,EMQ,sz_29]
 refine mU e (.region fun e h=>?_) h
 simp only [seval,EMQ]
 cases h
 simp only [seval,FMQ,Tryz.results67,ag_29,sz_29]
 refine .exit fun e h=>?_
 cases h
 simp only [seval,FMQ,Tryz.results67,ag_29,sz_29]
 intro v2
 refine Mir.toK (.sR fun e h=>?_)
 simp only [seval,EMQ,ag_29,sz_29]
 refine mU e (.ret fun e h=>?_) h
 cases h
 simp only [seval,FMQ,Tryz.results67,ag_29,sz_29]
def dc_times (a0 : ApiRat) (a1 : Int) : Option ApiRat := bindO (dc_power a1) fun (y1 : ApiInt) => bindO (it_FromInt64 1) fun (y2 : ApiInt) => bindO (ra_Make y1 y2) fun (y3 : ApiRat × Int) => bindO (ra_Mul a0 y3.1) fun (y4 : ApiRat) => some y4
theorem dc_times_spec {a0 : ApiRat} {a1 : Int} {y : ApiRat} (h : dc_times a0 a1 = some y) : Spec gP 74 [.agg [.d (.bool a0.Num.Neg), .d (.list (List.map (eInt .u32) a0.Num.Limbs)), .d (.bool a0.Den.Neg), .d (.list (List.map (eInt .u32) a0.Den.Limbs))], .d (.int .i64 a1)] (.agg [.d (.bool y.Num.Neg), .d (.list (List.map (eInt .u32) y.Num.Limbs)), .d (.bool y.Den.Neg), .d (.list (List.map (eInt .u32) y.Den.Limbs))]) := by
 refine spec_mir Tryz.func74 rfl (by kernel_rfl) (by kernel_rfl) (fun y : ApiRat => .agg [.d (.bool y.Num.Neg), .d (.list (List.map (eInt .u32) y.Num.Limbs)), .d (.bool y.Den.Neg), .d (.list (List.map (eInt .u32) y.Den.Limbs))]) ?_ h
 unfold dc_times
 simp only [List.replicate, List.length, nS, nA, Tryz.ntmps74, SV]
 refine .sR fun e h=>?_
 simp only [seval,EMQ,zero_31,eInt]
 refine mU e (.seqK (.bind fun y1 hy1=>.bind fun y2 hy2=>.bind fun y3 hy3=>.region fun e h=>?_)) h
 simp only [seval,EMQ,eInt]
 refine SpecS.by (dc_power_spec hy1) (by simp only [seval,FMQ,eInt]) ?_
 simp only [seval,EMQ,eInt]
 refine SpecS.by (it_FromInt64_spec hy2) (by simp only [seval,FMQ,eInt]) ?_
 simp only [seval,EMQ,eInt]
 refine SpecS.by (ra_Make_spec hy3) (by simp only [seval,FMQ,eInt]) ?_
 simp only [seval,EMQ,zero_31,sz_31,eInt]
 refine mU e (.seqK (.bind fun y4 hy4=>.region fun e h=>?_)) h
 simp only [seval,EMQ,ag_31,sz_31,eInt]
 refine SpecS.by (ra_Mul_spec hy4) (by simp only [seval,FMQ,eInt]) ?_
 simp only [seval,EMQ,sz_31,eInt]
 refine mU e (.ret fun e h=>?_) h
 cases h
 simp only [seval,FMQ,eInt,Tryz.results74,ag_31,sz_31]
def dc_round (a0 : ApiRat) : Option ApiInt := bindO (ra_Frac 1 2) fun (y1 : ApiRat) => bindO (ra_Add a0 y1) fun (y2 : ApiRat) => bindO (ra_Floor y2) fun (y3 : ApiInt) => some y3
theorem dc_round_spec {a0 : ApiRat} {y : ApiInt} (h : dc_round a0 = some y) : Spec gP 73 [.agg [.d (.bool a0.Num.Neg), .d (.list (List.map (eInt .u32) a0.Num.Limbs)), .d (.bool a0.Den.Neg), .d (.list (List.map (eInt .u32) a0.Den.Limbs))]] (.agg [.d (.bool y.Neg), .d (.list (List.map (eInt .u32) y.Limbs))]) := by
 refine spec_mir Tryz.func73 rfl (by kernel_rfl) (by kernel_rfl) (fun y : ApiInt => .agg [.d (.bool y.Neg), .d (.list (List.map (eInt .u32) y.Limbs))]) ?_ h
 unfold dc_round
 simp only [List.replicate, List.length, nS, nA, Tryz.ntmps73, SV]
 refine .sR fun e h=>?_
 simp only [seval,EMQ,zero_29,eInt]
 refine mU e (.seqK (.bind fun y1 hy1=>.bind fun y2 hy2=>.bind fun y3 hy3=>.regionD [] (by kernel_rfl) fun e h=>?_)) h
 simp only [seval,EMQ,SB,ag_31,sz_31,eInt]
 refine Spec.by (ra_Frac_spec hy1) (by simp only [seval,FMQ,eInt]) ?_
 simp only [seval,EMQ,SB,eInt]
 refine Spec.by (ra_Add_spec hy2) (by simp only [seval,FMQ,eInt]) ?_
 simp only [seval,EMQ,SB,eInt]
 refine Spec.by (ra_Floor_spec hy3) (by simp only [seval,FMQ,eInt]) ?_
 simp only [seval,EMQ,SB,sz_29,eInt]
 refine mU e (.ret fun e h=>?_) h
 cases h
 simp only [seval,FMQ,eInt,Tryz.results73,ag_29,sz_29]
end Go.Proofs.YtipefnighcdgnaaGreatDoor
