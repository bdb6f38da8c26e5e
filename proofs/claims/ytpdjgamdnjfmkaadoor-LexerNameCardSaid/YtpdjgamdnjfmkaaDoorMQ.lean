import Derived.Test.YtpdjgamdnjfmkaaDoorGx
import Derived.Test.YtpdjgamdnjfmkaaDoorTy
import Derived.Test.YtpdjgamdnjfmkaaDoorMI
namespace Go.Proofs.YtpdjgamdnjfmkaaDoor
open Go.RowKit
open Nat renaming reduceAdd → nA, reduceSub → nS, reduceMul → nM, reduceEqDiff → nE, reduceLeDiff → nL, reduceLT → nT, reduceBEq → nB
open Int renaming reduceLT → iT, reduceToNat → iN, reduceEq → iE
set_option linter.unusedVariables false
set_option linter.unusedSimpArgs false
set_option maxRecDepth 100000
set_option maxHeartbeats 8000000
structure ApiRat where
 Num : ApiInt
 Den : ApiInt
 deriving DecidableEq
def encApiRat (x : ApiRat) : List D := [.bool x.Num.Neg, .list (List.map (eInt .u32) x.Num.Limbs), .bool x.Den.Neg, .list (List.map (eInt .u32) x.Den.Limbs)]
theorem ENMQ : type_of% (@encApiRat.eq_1) := @encApiRat.eq_1
theorem EMQ : type_of% (And.intro @SE <| @ENMQ) := And.intro @SE <| @ENMQ
theorem FMQ : type_of% (And.intro @SF <| @ENMQ) := And.intro @SF <| @ENMQ
def r02_Same (a0 : ApiRat) (a1 : ApiRat) : Option Bool := bindO (bindO (r01_Same a0.Num a1.Num) fun (y1 : Bool) => if y1 = true then bindO (r01_Same a0.Den a1.Den) fun (y2 : Bool) => some y2 else some false) fun (v1 : Bool) => some v1
theorem r02_Same_spec {a0 : ApiRat} {a1 : ApiRat} {y : Bool} (h : r02_Same a0 a1 = some y) : Spec gP 15 [.agg [.d (.bool a0.Num.Neg), .d (.list (List.map (eInt .u32) a0.Num.Limbs)), .d (.bool a0.Den.Neg), .d (.list (List.map (eInt .u32) a0.Den.Limbs))], .agg [.d (.bool a1.Num.Neg), .d (.list (List.map (eInt .u32) a1.Num.Limbs)), .d (.bool a1.Den.Neg), .d (.list (List.map (eInt .u32) a1.Den.Limbs))]] (.d (.bool y)) := by
 refine spec_mir Tryd.func15 rfl (by kernel_rfl) (by kernel_rfl) (fun y : Bool => .d (.bool y)) ?_ h
 unfold r02_Same
 simp only [List.replicate, List.length, nS, nA, Tryd.ntmps15, SV]
 refine .sR fun e h=>?_
 simp only [seval,EMQ,eInt]
 refine mU e (.seqK (Mir.joinO (fun v1 : Bool=>([U,U,U,U,.d (.bool v1)] ++ us 12)) (fun v1=>⟨[[.d (.bool a0.Num.Neg),.d (.list (List.map (eInt .u32) a0.Num.Limbs)),.d (.bool a0.Den.Neg),.d (.list (List.map (eInt .u32) a0.Den.Limbs))],[.d (.bool a1.Num.Neg),.d (.list (List.map (eInt .u32) a1.Num.Limbs)),.d (.bool a1.Den.Neg),.d (.list (List.map (eInt .u32) a1.Den.Limbs))]],[]⟩) (fun _=>rfl) ?_ ?_)) h
 refine .bind fun y1 hy1=>.ite (fun hb2=>?_) (fun hb2=>?_)
 refine .bind fun y2 hy3=>.region fun e h=>?_
 simp only [seval,EMQ,fld_38_0,sz_36,ag_36,eInt,hb2]
 refine SpecS.by (r01_Same_spec hy1) (by simp only [seval,FMQ,eInt,hb2]) ?_
 simp only [seval,EMQ,fld_38_1,sz_36,ag_36,eInt,hb2]
 refine SpecS.by (r01_Same_spec hy3) (by simp only [seval,FMQ,eInt,hb2]) ?_
 simp only [seval,EMQ,eInt,hb2]
 cases h
 simp only [seval,FMQ,eInt,hb2]
 refine .region fun e h=>?_
 simp only [seval,EMQ,fld_38_0,sz_36,ag_36,eInt,hb2]
 refine SpecS.by (r01_Same_spec hy1) (by simp only [seval,FMQ,eInt,hb2]) ?_
 simp only [seval,EMQ,eInt,hb2]
 cases h
 simp only [seval,FMQ,eInt,hb2]
 intro v1
 refine Mir.toK (.ret fun e h=>?_)
 cases h
 simp only [seval,FMQ,eInt,Tryd.results15]
def ra_unit  : Option ApiInt := bindO (it_FromInt64 1) fun (y1 : ApiInt) => some y1
theorem ra_unit_spec  {y : ApiInt} (h : ra_unit = some y) : Spec gP 59 [] (.agg [.d (.bool y.Neg), .d (.list (List.map (eInt .u32) y.Limbs))]) := by
 refine spec_mir Tryd.func59 rfl (by kernel_rfl) (by kernel_rfl) (fun y : ApiInt => .agg [.d (.bool y.Neg), .d (.list (List.map (eInt .u32) y.Limbs))]) ?_ h
 unfold ra_unit
 simp only [List.replicate, List.length, nS, nA, Tryd.ntmps59, SV]
 refine .sR fun e h=>?_
 simp only [seval,EMQ,zero_36]
 refine mU e (.seqK (.bind fun y1 hy1=>.region fun e h=>?_)) h
 simp only [seval,EMQ]
 refine SpecS.by (it_FromInt64_spec hy1) (by simp only [seval,FMQ]) ?_
 simp only [seval,EMQ,sz_36]
 refine mU e (.ret fun e h=>?_) h
 cases h
 simp only [seval,FMQ,Tryd.results59,ag_36,sz_36]
def ra_exact (a0 : ApiInt) (a1 : ApiInt) : Option ApiInt := bindO (it_DivMod a0 a1) fun (y1 : ApiInt × ApiInt × Int) => some y1.1
theorem ra_exact_spec {a0 : ApiInt} {a1 : ApiInt} {y : ApiInt} (h : ra_exact a0 a1 = some y) : Spec gP 60 [.agg [.d (.bool a0.Neg), .d (.list (List.map (eInt .u32) a0.Limbs))], .agg [.d (.bool a1.Neg), .d (.list (List.map (eInt .u32) a1.Limbs))]] (.agg [.d (.bool y.Neg), .d (.list (List.map (eInt .u32) y.Limbs))]) := by
 refine spec_mir Tryd.func60 rfl (by kernel_rfl) (by kernel_rfl) (fun y : ApiInt => .agg [.d (.bool y.Neg), .d (.list (List.map (eInt .u32) y.Limbs))]) ?_ h
 unfold ra_exact
 simp only [List.replicate, List.length, nS, nA, Tryd.ntmps60, SV]
 refine .sR fun e h=>?_
 simp only [seval,EMQ,zero_36,eInt]
 refine mU e (.seqK (.bind fun y1 hy1=>.region fun e h=>?_)) h
 simp only [seval,EMQ,ag_36,sz_36,eInt]
 refine SpecS.by (it_DivMod_spec hy1) (by simp only [seval,FMQ,eInt]) ?_
 simp only [seval,EMQ,zero_36,sz_36,eInt]
 refine mU e (.sR fun e h=>?_) h
 simp only [seval,EMQ,ag_36,sz_36,eInt]
 refine mU e (.ret fun e h=>?_) h
 cases h
 simp only [seval,FMQ,eInt,Tryd.results60,ag_36,sz_36]
def ra_reduce (a0 : ApiInt) (a1 : ApiInt) : Option ApiRat := bindO (it_Sign a1) fun (y1 : Int) => bindO (if (decide (y1 < 0)) = true then bindO (it_Neg a0) fun (y2 : ApiInt) => bindO (it_Neg a1) fun (y3 : ApiInt) => some (y2, y3) else some (a0, a1)) fun (v1 : ApiInt × ApiInt) => bindO (it_GCD v1.1 v1.2) fun (y4 : ApiInt) => bindO (ra_unit ) fun (y5 : ApiInt) => bindO (it_Cmp y4 y5) fun (y6 : Int) => bindO (if (y6 != 0) = true then bindO (ra_exact v1.1 y4) fun (y7 : ApiInt) => bindO (ra_exact v1.2 y4) fun (y8 : ApiInt) => some (y7, y8) else some (v1.1, v1.2)) fun (v2 : ApiInt × ApiInt) => some (ApiRat.mk v2.1 v2.2)
theorem ra_reduce_spec {a0 : ApiInt} {a1 : ApiInt} {y : ApiRat} (h : ra_reduce a0 a1 = some y) : Spec gP 41 [.agg [.d (.bool a0.Neg), .d (.list (List.map (eInt .u32) a0.Limbs))], .agg [.d (.bool a1.Neg), .d (.list (List.map (eInt .u32) a1.Limbs))]] (.agg [.d (.bool y.Num.Neg), .d (.list (List.map (eInt .u32) y.Num.Limbs)), .d (.bool y.Den.Neg), .d (.list (List.map (eInt .u32) y.Den.Limbs))]) := by
 refine spec_mir Tryd.func41 rfl (by kernel_rfl) (by kernel_rfl) (fun y : ApiRat => .agg [.d (.bool y.Num.Neg), .d (.list (List.map (eInt .u32) y.Num.Limbs)), .d (.bool y.Den.Neg), .d (.list (List.map (eInt .u32) y.Den.Limbs))]) ?_ h
 unfold ra_reduce
 simp only [List.replicate, List.length, nS, nA, Tryd.ntmps41, SV]
 refine .sR fun e h=>?_
 simp only [seval,EMQ,zero_38,eInt]
 refine mU e (.seqK (.seqK (.bind fun y1 hy1=>.region fun e h=>?_))) h
 simp only [seval,EMQ,ag_36,sz_36,eInt]
 refine SpecS.by (it_Sign_spec hy1) (by simp only [seval,FMQ,eInt]) ?_
 simp only [seval,EMQ,eInt]
 refine mU e (Mir.joinO (fun v1 : ApiInt × ApiInt=>([U,U,.ptr 0 0,.ptr 1 0,.ptr 2 0] ++ us 24)) (fun v1=>⟨[[.d (.bool v1.1.Neg),.d (.list (List.map (eInt .u32) v1.1.Limbs))],[.d (.bool v1.2.Neg),.d (.list (List.map (eInt .u32) v1.2.Limbs))],[.d (.bool false),.nil,.d (.bool false),.nil]],[]⟩) (fun _=>rfl) ?_ ?_) h
 refine .cond rfl (fun hb5=>?_) (fun hb5=>?_)
 refine .bind fun y2 hy6=>.bind fun y3 hy7=>.regionD [] (by kernel_rfl) fun e h=>?_
 simp only [seval,EMQ,SB,ag_36,sz_36,eInt]
 refine Spec.by (it_Neg_spec hy6) (by simp only [seval,FMQ,eInt]) ?_
 simp only [seval,EMQ,SB,ag_36,sz_36,eInt]
 refine Spec.by (it_Neg_spec hy7) (by simp only [seval,FMQ,eInt]) ?_
 simp only [seval,EMQ,SB,sz_36,eInt]
 cases h
 simp only [seval,FMQ,eInt,Tryd.results41,ag_38,sz_38]
 refine .skip fun e h=>?_
 cases h
 simp only [seval,FMQ,eInt,Tryd.results41,ag_38,sz_38]
 intro v1
 refine Mir.toK (.seqK (.seqK (.bind fun y4 hy8=>.region fun e h=>?_)))
 simp only [seval,EMQ,ag_36,sz_36,eInt]
 refine SpecS.by (it_GCD_spec hy8) (by simp only [seval,FMQ,eInt]) ?_
 simp only [seval,EMQ,zero_36,sz_36,eInt]
 refine mU e (.seqK (.bind fun y5 hy9=>.bind fun y6 hy10=>.regionD [] (by kernel_rfl) fun e h=>?_)) h
 simp only [seval,EMQ,SB,ag_36,sz_36,eInt]
 refine Spec.by (ra_unit_spec hy9) (rfl) ?_
 simp only [seval,EMQ,SB,eInt]
 refine Spec.by (it_Cmp_spec hy10) (by simp only [seval,FMQ,eInt]) ?_
 simp only [seval,EMQ,SB,eInt]
 refine mU e (Mir.joinO (fun v2 : ApiInt × ApiInt=>([U,U,.ptr 0 0,.ptr 1 0,.ptr 2 0] ++ us 24)) (fun v2=>⟨[[.d (.bool v2.1.Neg),.d (.list (List.map (eInt .u32) v2.1.Limbs))],[.d (.bool v2.2.Neg),.d (.list (List.map (eInt .u32) v2.2.Limbs))],[.d (.bool false),.nil,.d (.bool false),.nil],[.d (.bool y4.Neg),.d (.list (List.map (eInt .u32) y4.Limbs))]],[]⟩) (fun _=>rfl) ?_ ?_) h
 refine .cond rfl (fun hb14=>?_) (fun hb14=>?_)
 refine .bind fun y7 hy15=>.bind fun y8 hy16=>.regionD [] (by kernel_rfl) fun e h=>?_
 simp only [seval,EMQ,SB,ag_36,sz_36,eInt]
 refine Spec.by (ra_exact_spec hy15) (by simp only [seval,FMQ,eInt]) ?_
 simp only [seval,EMQ,SB,ag_36,sz_36,eInt]
 refine Spec.by (ra_exact_spec hy16) (by simp only [seval,FMQ,eInt]) ?_
 simp only [seval,EMQ,SB,sz_36,eInt]
 cases h
 simp only [seval,FMQ,eInt,Tryd.results41,ag_38,sz_38]
 refine .skip fun e h=>?_
 cases h
 simp only [seval,FMQ,eInt,Tryd.results41,ag_38,sz_38]
 intro v2
 refine Mir.toK (.sR fun e h=>?_)
 simp only [seval,EMQ,ag_36,sz_36,zero_38,pl_38,sz_38,eInt]
 refine mU e (.ret fun e h=>?_) h
 cases h
 simp only [seval,FMQ,eInt,Tryd.results41,ag_38,sz_38]
def ra_Make (a0 : ApiInt) (a1 : ApiInt) : Option (ApiRat × Int) := bindO (it_Sign a1) fun (y1 : Int) => if (y1 == 0) = true then some (ApiRat.mk (ApiInt.mk false []) (ApiInt.mk false []), 6) else bindO (ra_reduce a0 a1) fun (y2 : ApiRat) => some (y2, 0)
theorem ra_Make_spec {a0 : ApiInt} {a1 : ApiInt} {y : ApiRat × Int} (h : ra_Make a0 a1 = some y) : Spec gP 37 [.agg [.d (.bool a0.Neg), .d (.list (List.map (eInt .u32) a0.Limbs))], .agg [.d (.bool a1.Neg), .d (.list (List.map (eInt .u32) a1.Limbs))]] (.tuple [.agg [.d (.bool y.1.Num.Neg), .d (.list (List.map (eInt .u32) y.1.Num.Limbs)), .d (.bool y.1.Den.Neg), .d (.list (List.map (eInt .u32) y.1.Den.Limbs))], .d (.int .i64 y.2)]) := by
 refine spec_mir Tryd.func37 rfl (by kernel_rfl) (by kernel_rfl) (fun y : ApiRat × Int => .tuple [.agg [.d (.bool y.1.Num.Neg), .d (.list (List.map (eInt .u32) y.1.Num.Limbs)), .d (.bool y.1.Den.Neg), .d (.list (List.map (eInt .u32) y.1.Den.Limbs))], .d (.int .i64 y.2)]) ?_ h
 unfold ra_Make
 simp only [List.replicate, List.length, nS, nA, Tryd.ntmps37, SV]
 refine .sR fun e h=>?_
 simp only [seval,EMQ,zero_38,eInt]
 refine mU e (.seqK (.seqK (.bind fun y1 hy1=>.region fun e h=>?_))) h
 simp only [seval,EMQ,ag_36,sz_36,eInt]
 refine SpecS.by (it_Sign_spec hy1) (by simp only [seval,FMQ,eInt]) ?_
 simp only [seval,EMQ,eInt]
 refine mU e (.cond rfl (fun hb3=>?_) (fun hb3=>?_)) h
 refine .sR fun e h=>?_
 simp only [seval,EMQ,zero_38,pl_38,sz_38,eInt]
 refine mU e (.ret fun e h=>?_) h
 cases h
 simp only [seval,FMQ,eInt,Tryd.results37,ag_38,sz_38]
 refine .skip (Mir.toK (.seqK (.bind fun y2 hy4=>.region fun e h=>?_)))
 simp only [seval,EMQ,ag_36,sz_36,eInt]
 refine SpecS.by (ra_reduce_spec hy4) (by simp only [seval,FMQ,eInt]) ?_
 simp only [seval,EMQ,sz_38,eInt]
 refine mU e (.ret fun e h=>?_) h
 cases h
 simp only [seval,FMQ,eInt,Tryd.results37,ag_38,sz_38]
def dc_power (a0 : Int) : Option ApiInt := bindO (it_FromInt64 1) fun (y1 : ApiInt) => bindO (it_FromInt64 10) fun (y2 : ApiInt) => bindO (loopX (fun (v1 : Int × ApiInt) => if (decide (v1.1 < a0)) = true then bindO (it_Mul v1.2 y2) fun (y3 : ApiInt) => some (.go (IntKind.i64.wrap (v1.1 + 1), y3)) else some (.ret v1.2)) fuel (0, y1)) fun (v2 : ApiInt) => some v2
theorem dc_power_spec {a0 : Int} {y : ApiInt} (h : dc_power a0 = some y) : Spec gP 38 [.d (.int .i64 a0)] (.agg [.d (.bool y.Neg), .d (.list (List.map (eInt .u32) y.Limbs))]) := by
 refine spec_mir Tryd.func38 rfl (by kernel_rfl) (by kernel_rfl) (fun y : ApiInt => .agg [.d (.bool y.Neg), .d (.list (List.map (eInt .u32) y.Limbs))]) ?_ h
 unfold dc_power
 simp only [List.replicate, List.length, nS, nA, Tryd.ntmps38, SV]
 refine .sR fun e h=>?_
 simp only [seval,EMQ,zero_36]
 refine mU e (.seqK (.bind fun y1 hy1=>.region fun e h=>?_)) h
 simp only [seval,EMQ]
 refine SpecS.by (it_FromInt64_spec hy1) (by simp only [seval,FMQ]) ?_
 simp only [seval,EMQ,zero_36,sz_36]
 refine mU e (.seqK (.bind fun y2 hy2=>.region fun e h=>?_)) h
 simp only [seval,EMQ]
 refine SpecS.by (it_FromInt64_spec hy2) (by simp only [seval,FMQ]) ?_
 simp only [seval,EMQ,zero_36,sz_36]
 refine mU e (.seqK (.sR fun e h=>?_)) h
 simp only [seval,EMQ]
 refine mU e (Mir.joinO (fun v2 : ApiInt=>([U,U,.ptr 0 0,.ptr 1 0] ++ us 11)) (fun v2=>⟨[[.d (.bool false),.nil],[.d (.bool v2.Neg),.d (.list (List.map (eInt .u32) v2.Limbs))],[.d (.bool y2.Neg),.d (.list (List.map (eInt .u32) y2.Limbs))]],[]⟩) (fun _=>rfl) ?_ ?_) h
 refine .block (Mir.loop (fun v1 : Int × ApiInt=>([U,U,.ptr 0 0,.ptr 1 0,.ptr 2 0,U,U,.d (.int .i64 a0),.d (.int .i64 v1.1)] ++ us 6)) (fun v1=>⟨[[.d (.bool false),.nil],[.d (.bool v1.2.Neg),.d (.list (List.map (eInt .u32) v1.2.Limbs))],[.d (.bool y2.Neg),.d (.list (List.map (eInt .u32) y2.Limbs))]],[]⟩) (fun _=>rfl) (by simp only [seval,FMQ]) (by simp only [seval,FMQ]) fun v1=>.sR fun e h=>?_)
 simp only [seval,EMQ]
 refine mU e (.seqK (.cond rfl (fun hb24=>?_) (fun hb24=>?_))) h
 refine .skip (Mir.toK (.seqK (.block (.bind fun y3 hy26=>.region fun e h=>?_))))
 simp only [seval,EMQ,ag_36,sz_36]
 refine SpecS.by (it_Mul_spec hy26) (by simp only [seval,FMQ]) ?_
 simp only [seval,EMQ,sz_36]
 refine mU e (.region fun e h=>?_) h
 simp only [seval,EMQ]
 cases h
 simp only [seval,FMQ,Tryd.results38,ag_36,sz_36]
 refine .exit fun e h=>?_
 cases h
 simp only [seval,FMQ,Tryd.results38,ag_36,sz_36]
 intro v2
 refine Mir.toK (.sR fun e h=>?_)
 simp only [seval,EMQ,ag_36,sz_36]
 refine mU e (.ret fun e h=>?_) h
 cases h
 simp only [seval,FMQ,Tryd.results38,ag_36,sz_36]
def ra_Mul (a0 : ApiRat) (a1 : ApiRat) : Option ApiRat := bindO (it_Mul a0.Num a1.Num) fun (y1 : ApiInt) => bindO (it_Mul a0.Den a1.Den) fun (y2 : ApiInt) => bindO (ra_reduce y1 y2) fun (y3 : ApiRat) => some y3
theorem ra_Mul_spec {a0 : ApiRat} {a1 : ApiRat} {y : ApiRat} (h : ra_Mul a0 a1 = some y) : Spec gP 27 [.agg [.d (.bool a0.Num.Neg), .d (.list (List.map (eInt .u32) a0.Num.Limbs)), .d (.bool a0.Den.Neg), .d (.list (List.map (eInt .u32) a0.Den.Limbs))], .agg [.d (.bool a1.Num.Neg), .d (.list (List.map (eInt .u32) a1.Num.Limbs)), .d (.bool a1.Den.Neg), .d (.list (List.map (eInt .u32) a1.Den.Limbs))]] (.agg [.d (.bool y.Num.Neg), .d (.list (List.map (eInt .u32) y.Num.Limbs)), .d (.bool y.Den.Neg), .d (.list (List.map (eInt .u32) y.Den.Limbs))]) := by
 refine spec_mir Tryd.func27 rfl (by kernel_rfl) (by kernel_rfl) (fun y : ApiRat => .agg [.d (.bool y.Num.Neg), .d (.list (List.map (eInt .u32) y.Num.Limbs)), .d (.bool y.Den.Neg), .d (.list (List.map (eInt .u32) y.Den.Limbs))]) ?_ h
 unfold ra_Mul
 simp only [List.replicate, List.length, nS, nA, Tryd.ntmps27, SV]
 refine .sR fun e h=>?_
 simp only [seval,EMQ,zero_38,eInt]
 refine mU e (.seqK (.bind fun y1 hy1=>.bind fun y2 hy2=>.bind fun y3 hy3=>.regionD [] (by kernel_rfl) fun e h=>?_)) h
 simp only [seval,EMQ,SB,fld_38_0,sz_36,ag_36,eInt]
 refine Spec.by (it_Mul_spec hy1) (by simp only [seval,FMQ,eInt]) ?_
 simp only [seval,EMQ,SB,fld_38_1,sz_36,ag_36,eInt]
 refine Spec.by (it_Mul_spec hy2) (by simp only [seval,FMQ,eInt]) ?_
 simp only [seval,EMQ,SB,eInt]
 refine Spec.by (ra_reduce_spec hy3) (by simp only [seval,FMQ,eInt]) ?_
 simp only [seval,EMQ,SB,sz_38,eInt]
 refine mU e (.ret fun e h=>?_) h
 cases h
 simp only [seval,FMQ,eInt,Tryd.results27,ag_38,sz_38]
def ra_whole (a0 : ApiInt) : Option ApiRat := bindO (ra_unit ) fun (y1 : ApiInt) => some (ApiRat.mk a0 y1)
theorem ra_whole_spec {a0 : ApiInt} {y : ApiRat} (h : ra_whole a0 = some y) : Spec gP 43 [.agg [.d (.bool a0.Neg), .d (.list (List.map (eInt .u32) a0.Limbs))]] (.agg [.d (.bool y.Num.Neg), .d (.list (List.map (eInt .u32) y.Num.Limbs)), .d (.bool y.Den.Neg), .d (.list (List.map (eInt .u32) y.Den.Limbs))]) := by
 refine spec_mir Tryd.func43 rfl (by kernel_rfl) (by kernel_rfl) (fun y : ApiRat => .agg [.d (.bool y.Num.Neg), .d (.list (List.map (eInt .u32) y.Num.Limbs)), .d (.bool y.Den.Neg), .d (.list (List.map (eInt .u32) y.Den.Limbs))]) ?_ h
 unfold ra_whole
 simp only [List.replicate, List.length, nS, nA, Tryd.ntmps43, SV]
 refine .sR fun e h=>?_
 simp only [seval,EMQ,zero_38,eInt]
 refine mU e (.seqK (.bind fun y1 hy1=>.regionD [] (by kernel_rfl) fun e h=>?_)) h
 simp only [seval,EMQ,SB,ag_36,sz_36,eInt]
 refine Spec.by (ra_unit_spec hy1) (rfl) ?_
 simp only [seval,EMQ,SB,zero_38,pl_38,sz_38,eInt]
 refine mU e (.ret fun e h=>?_) h
 cases h
 simp only [seval,FMQ,eInt,Tryd.results43,ag_38,sz_38]
def ra_FromInt64 (a0 : Int) : Option ApiRat := bindO (it_FromInt64 a0) fun (y1 : ApiInt) => bindO (ra_whole y1) fun (y2 : ApiRat) => some y2
theorem ra_FromInt64_spec {a0 : Int} {y : ApiRat} (h : ra_FromInt64 a0 = some y) : Spec gP 28 [.d (.int .i64 a0)] (.agg [.d (.bool y.Num.Neg), .d (.list (List.map (eInt .u32) y.Num.Limbs)), .d (.bool y.Den.Neg), .d (.list (List.map (eInt .u32) y.Den.Limbs))]) := by
 refine spec_mir Tryd.func28 rfl (by kernel_rfl) (by kernel_rfl) (fun y : ApiRat => .agg [.d (.bool y.Num.Neg), .d (.list (List.map (eInt .u32) y.Num.Limbs)), .d (.bool y.Den.Neg), .d (.list (List.map (eInt .u32) y.Den.Limbs))]) ?_ h
 unfold ra_FromInt64
 simp only [List.replicate, List.length, nS, nA, Tryd.ntmps28, SV]
 refine .sR fun e h=>?_
 simp only [seval,EMQ,zero_38]
 refine mU e (.seqK (.bind fun y1 hy1=>.bind fun y2 hy2=>.region fun e h=>?_)) h
 simp only [seval,EMQ]
 refine SpecS.by (it_FromInt64_spec hy1) (by simp only [seval,FMQ]) ?_
 simp only [seval,EMQ]
 refine SpecS.by (ra_whole_spec hy2) (by simp only [seval,FMQ]) ?_
 simp only [seval,EMQ,sz_38]
 refine mU e (.ret fun e h=>?_) h
 cases h
 simp only [seval,FMQ,Tryd.results28,ag_38,sz_38]
def r02_unit  : Option ApiInt := bindO (r01_FromInt64 1) fun (y1 : ApiInt) => some y1
theorem r02_unit_spec  {y : ApiInt} (h : r02_unit = some y) : Spec gP 34 [] (.agg [.d (.bool y.Neg), .d (.list (List.map (eInt .u32) y.Limbs))]) := by
 refine spec_mir Tryd.func34 rfl (by kernel_rfl) (by kernel_rfl) (fun y : ApiInt => .agg [.d (.bool y.Neg), .d (.list (List.map (eInt .u32) y.Limbs))]) ?_ h
 unfold r02_unit
 simp only [List.replicate, List.length, nS, nA, Tryd.ntmps34, SV]
 refine .sR fun e h=>?_
 simp only [seval,EMQ,zero_36]
 refine mU e (.seqK (.bind fun y1 hy1=>.region fun e h=>?_)) h
 simp only [seval,EMQ]
 refine SpecS.by (r01_FromInt64_spec hy1) (by simp only [seval,FMQ]) ?_
 simp only [seval,EMQ,sz_36]
 refine mU e (.ret fun e h=>?_) h
 cases h
 simp only [seval,FMQ,Tryd.results34,ag_36,sz_36]
def r02_FromInt64 (a0 : Int) : Option ApiRat := bindO (r01_FromInt64 a0) fun (y1 : ApiInt) => bindO (r02_unit ) fun (y2 : ApiInt) => some (ApiRat.mk y1 y2)
theorem r02_FromInt64_spec {a0 : Int} {y : ApiRat} (h : r02_FromInt64 a0 = some y) : Spec gP 16 [.d (.int .i64 a0)] (.agg [.d (.bool y.Num.Neg), .d (.list (List.map (eInt .u32) y.Num.Limbs)), .d (.bool y.Den.Neg), .d (.list (List.map (eInt .u32) y.Den.Limbs))]) := by
 refine spec_mir Tryd.func16 rfl (by kernel_rfl) (by kernel_rfl) (fun y : ApiRat => .agg [.d (.bool y.Num.Neg), .d (.list (List.map (eInt .u32) y.Num.Limbs)), .d (.bool y.Den.Neg), .d (.list (List.map (eInt .u32) y.Den.Limbs))]) ?_ h
 unfold r02_FromInt64
 simp only [List.replicate, List.length, nS, nA, Tryd.ntmps16, SV]
 refine .sR fun e h=>?_
 simp only [seval,EMQ,zero_38]
 refine mU e (.seqK (.bind fun y1 hy1=>.bind fun y2 hy2=>.region fun e h=>?_)) h
 simp only [seval,EMQ]
 refine SpecS.by (r01_FromInt64_spec hy1) (by simp only [seval,FMQ]) ?_
 simp only [seval,EMQ]
 refine SpecS.by (r02_unit_spec hy2) (rfl) ?_
 simp only [seval,EMQ,zero_38,pl_38,sz_38]
 refine mU e (.ret fun e h=>?_) h
 cases h
 simp only [seval,FMQ,Tryd.results16,ag_38,sz_38]
end Go.Proofs.YtpdjgamdnjfmkaaDoor
