import Derived.Test.YtipefnighcdgnaaGreatDoorGx
import Derived.Test.YtipefnighcdgnaaGreatDoorTy
import Derived.Test.YtipefnighcdgnaaGreatDoorGo
import Derived.Test.YtipefnighcdgnaaGreatDoorMI
import Derived.Test.YtipefnighcdgnaaGreatDoorMQ
import Derived.Test.YtipefnighcdgnaaGreatDoorMB
namespace Go.Proofs.YtipefnighcdgnaaGreatDoor
open Go.RowKit
open Nat renaming reduceAdd → nA, reduceSub → nS, reduceMul → nM, reduceEqDiff → nE, reduceLeDiff → nL, reduceLT → nT, reduceBEq → nB
open Int renaming reduceLT → iT, reduceToNat → iN, reduceEq → iE
set_option linter.unusedVariables false
set_option linter.unusedSimpArgs false
set_option maxRecDepth 100000
set_option maxHeartbeats 8000000
theorem EMLOpposite : type_of% (@SE) := @SE
theorem FMLOpposite : type_of% (@SF) := @SF
def l06_DecimalOpposite (a0 : R03Surd) : Option Bool := bindO (l06_awake ) fun (y1 : Bool) => if (!y1) = true then some false else bindO (r03_Of a0) fun (y2 : ApiRoot) => bindO (dc_Down y2) fun (y3 : ApiInt) => bindO (dc_Up y2) fun (y4 : ApiInt) => bindO (dc_Nearest y2) fun (y5 : ApiInt) => bindO (bindO (r01_Valid y3) fun (y6 : Bool) => if y6 = true then bindO (r01_Valid y4) fun (y7 : Bool) => if y7 = true then bindO (r01_Valid y5) fun (y8 : Bool) => if y8 = true then bindO (r03_Neg y2) fun (y9 : ApiRoot) => bindO (dc_Down y9) fun (y10 : ApiInt) => bindO (r01_Neg y4) fun (y11 : ApiInt) => bindO (r01_Same y10 y11) fun (y12 : Bool) => some (!y12) else some true else some true else some true) fun (v1 : Bool) => if v1 = true then some false else bindO (r01_Sub y4 y3) fun (y13 : ApiInt) => bindO (r02_FromInt y3) fun (y14 : ApiRat) => bindO (r03_CmpRat y2 y14) fun (y15 : Int) => bindO (bindO (r01_FromInt64 0) fun (y16 : ApiInt) => bindO (r01_Same y13 y16) fun (y17 : Bool) => if (y17 == (y15 == 0)) = true then if (y15 == 0) = true then bindO (r01_Same y5 y4) fun (y18 : Bool) => if y18 = true then some true else bindO (r01_Same y5 y3) fun (y19 : Bool) => some y19 else bindO (r01_FromInt64 1) fun (y20 : ApiInt) => bindO (r01_Same y13 y20) fun (y21 : Bool) => if y21 = true then bindO (r01_Same y5 y4) fun (y22 : Bool) => if y22 = true then some true else bindO (r01_Same y5 y3) fun (y23 : Bool) => some y23 else some false else some false) fun (v2 : Bool) => some v2
theorem l06_DecimalOpposite_spec {a0 : R03Surd} {y : Bool} (h : l06_DecimalOpposite a0 = some y) : Spec gP 4 [.agg [.d (.int .i16 a0.A), .d (.int .i16 a0.B), .d (.int .u16 a0.C), .d (.int .u8 a0.D), .d (.int .u8 a0.E), .d (.int .u8 a0.F)]] (.d (.bool y)) := by
 refine spec_mir Tryz.func4 rfl (by kernel_rfl) (by kernel_rfl) (fun y : Bool => .d (.bool y)) ?_ h
 unfold l06_DecimalOpposite
 simp only [List.replicate, List.length, nS, nA, Tryz.ntmps4, SV]
 refine .sR fun e h=>?_
 simp only [seval,EMLOpposite]
 refine mU e (.seqK (.seqK (.bind fun y1 hy1=>.region fun e h=>?_))) h
 simp only [seval,EMLOpposite]
 refine SpecS.by (l06_awake_spec hy1) (rfl) ?_
 simp only [seval,EMLOpposite]
 refine mU e (.cond rfl (fun hb3=>?_) (fun hb3=>?_)) h
 refine .sR fun e h=>?_
 simp only [seval,EMLOpposite]
 refine mU e (.ret fun e h=>?_) h
 cases h
 simp only [seval,FMLOpposite,Tryz.results4]
 refine .skip (Mir.toK (.seqK (.bind fun y2 hy4=>.region fun e h=>?_)))
 simp only [seval,EMLOpposite,ag_25,sz_25]
 refine SpecS.by (r03_Of_spec hy4) (by simp only [seval,FMLOpposite]) ?_
 simp only [seval,EMLOpposite,zero_33,sz_33]
 refine mU e (.seqK (.bind fun y3 hy5=>.bind fun y4 hy6=>.bind fun y5 hy7=>.regionD [] (by kernel_rfl) fun e h=>?_)) h
 simp only [seval,EMLOpposite,SB,ag_33,sz_33]
 refine Spec.by (dc_Down_spec hy5) (by simp only [seval,FMLOpposite]) ?_
 simp only [seval,EMLOpposite,SB,ag_33,sz_33]
 refine Spec.by (dc_Up_spec hy6) (by simp only [seval,FMLOpposite]) ?_
 simp only [seval,EMLOpposite,SB,ag_33,sz_33]
 refine Spec.by (dc_Nearest_spec hy7) (by simp only [seval,FMLOpposite]) ?_
 simp only [seval,EMLOpposite,SB,zero_29,sz_29]
 refine mU e (.seqK (.seqK (Mir.joinO (fun v1 : Bool=>([U,U,U,.ptr 1 0,.ptr 2 0,.ptr 3 0,.ptr 4 0,U,U,U,U,U,U,U,U,U,U,U,U,U,U,U,U,U,U,U,U,U,U,U,U,U,U,U,U,U,U,U,U,U,.d (.bool v1)] ++ us 31)) (fun v1=>⟨[[.d (.int .i16 a0.A),.d (.int .i16 a0.B),.d (.int .u16 a0.C),.d (.int .u8 a0.D),.d (.int .u8 a0.E),.d (.int .u8 a0.F)],[.d (.bool y2.A.Num.Neg),.d (.list (List.map (eInt .u32) y2.A.Num.Limbs)),.d (.bool y2.A.Den.Neg),.d (.list (List.map (eInt .u32) y2.A.Den.Limbs)),.d (.bool y2.B.Num.Neg),.d (.list (List.map (eInt .u32) y2.B.Num.Limbs)),.d (.bool y2.B.Den.Neg),.d (.list (List.map (eInt .u32) y2.B.Den.Limbs)),.d (.bool y2.C.Num.Neg),.d (.list (List.map (eInt .u32) y2.C.Num.Limbs)),.d (.bool y2.C.Den.Neg),.d (.list (List.map (eInt .u32) y2.C.Den.Limbs))],[.d (.bool y3.Neg),.d (.list (List.map (eInt .u32) y3.Limbs))],[.d (.bool y4.Neg),.d (.list (List.map (eInt .u32) y4.Limbs))],[.d (.bool y5.Neg),.d (.list (List.map (eInt .u32) y5.Limbs))]],[]⟩) (fun _=>rfl) ?_ ?_))) h
 refine .bind fun y6 hy8=>.ite (fun hb9=>?_) (fun hb9=>?_)
 refine .bind fun y7 hy10=>.ite (fun hb11=>?_) (fun hb11=>?_)
 refine .bind fun y8 hy12=>.ite (fun hb13=>?_) (fun hb13=>?_)
 refine .bind fun y9 hy14=>.bind fun y10 hy15=>.bind fun y11 hy16=>.bind fun y12 hy17=>.regionD [] (by kernel_rfl) fun e h=>?_
 simp only [seval,EMLOpposite,SB,ag_29,sz_29,hb9,hb11,hb13]
 refine Spec.by (r01_Valid_spec hy8) (by simp only [seval,FMLOpposite,hb9,hb11,hb13]) ?_
 simp only [seval,EMLOpposite,SB,ag_29,sz_29,hb9,hb11,hb13]
 refine Spec.by (r01_Valid_spec hy10) (by simp only [seval,FMLOpposite,hb9,hb11,hb13]) ?_
 simp only [seval,EMLOpposite,SB,ag_29,sz_29,hb9,hb11,hb13]
 refine Spec.by (r01_Valid_spec hy12) (by simp only [seval,FMLOpposite,hb9,hb11,hb13]) ?_
 simp only [seval,EMLOpposite,SB,ag_33,sz_33,hb9,hb11,hb13]
 refine Spec.by (r03_Neg_spec hy14) (by simp only [seval,FMLOpposite,hb9,hb11,hb13]) ?_
 simp only [seval,EMLOpposite,SB,hb9,hb11,hb13]
 refine Spec.by (dc_Down_spec hy15) (by simp only [seval,FMLOpposite,hb9,hb11,hb13]) ?_
 simp only [seval,EMLOpposite,SB,ag_29,sz_29,hb9,hb11,hb13]
 refine Spec.by (r01_Neg_spec hy16) (by simp only [seval,FMLOpposite,hb9,hb11,hb13]) ?_
 simp only [seval,EMLOpposite,SB,hb9,hb11,hb13]
 refine Spec.by (r01_Same_spec hy17) (by simp only [seval,FMLOpposite,hb9,hb11,hb13]) ?_
 simp only [seval,EMLOpposite,SB,hb9,hb11,hb13]
 cases h
 simp only [seval,FMLOpposite,hb9,hb11,hb13]
 refine .regionD [] (by kernel_rfl) fun e h=>?_
 simp only [seval,EMLOpposite,SB,ag_29,sz_29,hb9,hb11,hb13]
 refine Spec.by (r01_Valid_spec hy8) (by simp only [seval,FMLOpposite,hb9,hb11,hb13]) ?_
 simp only [seval,EMLOpposite,SB,ag_29,sz_29,hb9,hb11,hb13]
 refine Spec.by (r01_Valid_spec hy10) (by simp only [seval,FMLOpposite,hb9,hb11,hb13]) ?_
 simp only [seval,EMLOpposite,SB,ag_29,sz_29,hb9,hb11,hb13]
 refine Spec.by (r01_Valid_spec hy12) (by simp only [seval,FMLOpposite,hb9,hb11,hb13]) ?_
 simp only [seval,EMLOpposite,SB,hb9,hb11,hb13]
 cases h
 simp only [seval,FMLOpposite,hb9,hb11,hb13]
 refine .regionD [] (by kernel_rfl) fun e h=>?_
 simp only [seval,EMLOpposite,SB,ag_29,sz_29,hb9,hb11]
 refine Spec.by (r01_Valid_spec hy8) (by simp only [seval,FMLOpposite,hb9,hb11]) ?_
 simp only [seval,EMLOpposite,SB,ag_29,sz_29,hb9,hb11]
 refine Spec.by (r01_Valid_spec hy10) (by simp only [seval,FMLOpposite,hb9,hb11]) ?_
 simp only [seval,EMLOpposite,SB,hb9,hb11]
 cases h
 simp only [seval,FMLOpposite,hb9,hb11]
 refine .regionD [] (by kernel_rfl) fun e h=>?_
 simp only [seval,EMLOpposite,SB,ag_29,sz_29,hb9]
 refine Spec.by (r01_Valid_spec hy8) (by simp only [seval,FMLOpposite,hb9]) ?_
 simp only [seval,EMLOpposite,SB,hb9]
 cases h
 simp only [seval,FMLOpposite,hb9]
 intro v1
 refine Mir.toK (.cond rfl (fun hb19=>?_) (fun hb19=>?_))
 refine .sR fun e h=>?_
 simp only [seval,EMLOpposite]
 refine mU e (.ret fun e h=>?_) h
 cases h
 simp only [seval,FMLOpposite,Tryz.results4]
 refine .skip (Mir.toK (.seqK (.bind fun y13 hy20=>.region fun e h=>?_)))
 simp only [seval,EMLOpposite,ag_29,sz_29]
 refine SpecS.by (r01_Sub_spec hy20) (by simp only [seval,FMLOpposite]) ?_
 simp only [seval,EMLOpposite,zero_29,sz_29]
 refine mU e (.seqK (.bind fun y14 hy21=>.bind fun y15 hy22=>.regionD [] (by kernel_rfl) fun e h=>?_)) h
 simp only [seval,EMLOpposite,SB,ag_33,sz_33,ag_29,sz_29]
 refine Spec.by (r02_FromInt_spec hy21) (by simp only [seval,FMLOpposite]) ?_
 simp only [seval,EMLOpposite,SB]
 refine Spec.by (r03_CmpRat_spec hy22) (by simp only [seval,FMLOpposite]) ?_
 simp only [seval,EMLOpposite,SB]
 refine mU e (.seqK (Mir.joinO (fun v2 : Bool=>([U,U,.d (.bool v2)] ++ us 69)) (fun v2=>⟨[[.d (.int .i16 a0.A),.d (.int .i16 a0.B),.d (.int .u16 a0.C),.d (.int .u8 a0.D),.d (.int .u8 a0.E),.d (.int .u8 a0.F)],[.d (.bool y2.A.Num.Neg),.d (.list (List.map (eInt .u32) y2.A.Num.Limbs)),.d (.bool y2.A.Den.Neg),.d (.list (List.map (eInt .u32) y2.A.Den.Limbs)),.d (.bool y2.B.Num.Neg),.d (.list (List.map (eInt .u32) y2.B.Num.Limbs)),.d (.bool y2.B.Den.Neg),.d (.list (List.map (eInt .u32) y2.B.Den.Limbs)),.d (.bool y2.C.Num.Neg),.d (.list (List.map (eInt .u32) y2.C.Num.Limbs)),.d (.bool y2.C.Den.Neg),.d (.list (List.map (eInt .u32) y2.C.Den.Limbs))],[.d (.bool y3.Neg),.d (.list (List.map (eInt .u32) y3.Limbs))],[.d (.bool y4.Neg),.d (.list (List.map (eInt .u32) y4.Limbs))],[.d (.bool y5.Neg),.d (.list (List.map (eInt .u32) y5.Limbs))],[.d (.bool y13.Neg),.d (.list (List.map (eInt .u32) y13.Limbs))]],[]⟩) (fun _=>rfl) ?_ ?_)) h
 refine .bind fun y16 hy23=>.bind fun y17 hy24=>.ite (fun hb25=>?_) (fun hb25=>?_)
 refine .ite (fun hb26=>?_) (fun hb26=>?_)
 refine .bind fun y18 hy27=>.ite (fun hb28=>?_) (fun hb28=>?_)
 have hb25' := hb25
 simp only [hb26] at hb25'
 refine .regionD [] (by kernel_rfl) fun e h=>?_
 simp only [seval,EMLOpposite,SB,ag_29,sz_29,hb25,hb26,hb28,hb25']
 refine Spec.by (r01_FromInt64_spec hy23) (by simp only [seval,FMLOpposite,hb25,hb26,hb28,hb25']) ?_
 simp only [seval,EMLOpposite,SB,hb25,hb26,hb28,hb25']
 refine Spec.by (r01_Same_spec hy24) (by simp only [seval,FMLOpposite,hb25,hb26,hb28,hb25']) ?_
 simp only [seval,EMLOpposite,SB,und_4,ag_29,sz_29,hb25,hb26,hb28,hb25']
 refine Spec.by (r01_Same_spec hy27) (by simp only [seval,FMLOpposite,hb25,hb26,hb28,hb25']) ?_
 simp only [seval,EMLOpposite,SB,hb25,hb26,hb28,hb25']
 cases h
 simp only [seval,FMLOpposite,hb25,hb26,hb28,hb25']
 refine .bind fun y19 hy29=>?_
 have hb25' := hb25
 simp only [hb26] at hb25'
 refine .regionD [] (by kernel_rfl) fun e h=>?_
 simp only [seval,EMLOpposite,SB,ag_29,sz_29,hb25,hb26,hb28,hb25']
 refine Spec.by (r01_FromInt64_spec hy23) (by simp only [seval,FMLOpposite,hb25,hb26,hb28,hb25']) ?_
 simp only [seval,EMLOpposite,SB,hb25,hb26,hb28,hb25']
 refine Spec.by (r01_Same_spec hy24) (by simp only [seval,FMLOpposite,hb25,hb26,hb28,hb25']) ?_
 simp only [seval,EMLOpposite,SB,und_4,ag_29,sz_29,hb25,hb26,hb28,hb25']
 refine Spec.by (r01_Same_spec hy27) (by simp only [seval,FMLOpposite,hb25,hb26,hb28,hb25']) ?_
 simp only [seval,EMLOpposite,SB,ag_29,sz_29,hb25,hb26,hb28,hb25']
 refine Spec.by (r01_Same_spec hy29) (by simp only [seval,FMLOpposite,hb25,hb26,hb28,hb25']) ?_
 simp only [seval,EMLOpposite,SB,hb25,hb26,hb28,hb25']
 cases h
 simp only [seval,FMLOpposite,hb25,hb26,hb28,hb25']
 refine .bind fun y20 hy30=>.bind fun y21 hy31=>.ite (fun hb32=>?_) (fun hb32=>?_)
 refine .bind fun y22 hy33=>.ite (fun hb34=>?_) (fun hb34=>?_)
 have hb25' := hb25
 simp only [hb26] at hb25'
 refine .regionD [] (by kernel_rfl) fun e h=>?_
 simp only [seval,EMLOpposite,SB,ag_29,sz_29,hb25,hb26,hb32,hb34,hb25']
 refine Spec.by (r01_FromInt64_spec hy23) (by simp only [seval,FMLOpposite,hb25,hb26,hb32,hb34,hb25']) ?_
 simp only [seval,EMLOpposite,SB,hb25,hb26,hb32,hb34,hb25']
 refine Spec.by (r01_Same_spec hy24) (by simp only [seval,FMLOpposite,hb25,hb26,hb32,hb34,hb25']) ?_
 simp only [seval,EMLOpposite,SB,und_4,ag_29,sz_29,hb25,hb26,hb32,hb34,hb25']
 refine Spec.by (r01_FromInt64_spec hy30) (by simp only [seval,FMLOpposite,hb25,hb26,hb32,hb34,hb25']) ?_
 simp only [seval,EMLOpposite,SB,hb25,hb26,hb32,hb34,hb25']
 refine Spec.by (r01_Same_spec hy31) (by simp only [seval,FMLOpposite,hb25,hb26,hb32,hb34,hb25']) ?_
 simp only [seval,EMLOpposite,SB,ag_29,sz_29,hb25,hb26,hb32,hb34,hb25']
 refine Spec.by (r01_Same_spec hy33) (by simp only [seval,FMLOpposite,hb25,hb26,hb32,hb34,hb25']) ?_
 simp only [seval,EMLOpposite,SB,hb25,hb26,hb32,hb34,hb25']
 cases h
 simp only [seval,FMLOpposite,hb25,hb26,hb32,hb34,hb25']
 refine .bind fun y23 hy35=>?_
 have hb25' := hb25
 simp only [hb26] at hb25'
 refine .regionD [] (by kernel_rfl) fun e h=>?_
 simp only [seval,EMLOpposite,SB,ag_29,sz_29,hb25,hb26,hb32,hb34,hb25']
 refine Spec.by (r01_FromInt64_spec hy23) (by simp only [seval,FMLOpposite,hb25,hb26,hb32,hb34,hb25']) ?_
 simp only [seval,EMLOpposite,SB,hb25,hb26,hb32,hb34,hb25']
 refine Spec.by (r01_Same_spec hy24) (by simp only [seval,FMLOpposite,hb25,hb26,hb32,hb34,hb25']) ?_
 simp only [seval,EMLOpposite,SB,und_4,ag_29,sz_29,hb25,hb26,hb32,hb34,hb25']
 refine Spec.by (r01_FromInt64_spec hy30) (by simp only [seval,FMLOpposite,hb25,hb26,hb32,hb34,hb25']) ?_
 simp only [seval,EMLOpposite,SB,hb25,hb26,hb32,hb34,hb25']
 refine Spec.by (r01_Same_spec hy31) (by simp only [seval,FMLOpposite,hb25,hb26,hb32,hb34,hb25']) ?_
 simp only [seval,EMLOpposite,SB,ag_29,sz_29,hb25,hb26,hb32,hb34,hb25']
 refine Spec.by (r01_Same_spec hy33) (by simp only [seval,FMLOpposite,hb25,hb26,hb32,hb34,hb25']) ?_
 simp only [seval,EMLOpposite,SB,ag_29,sz_29,hb25,hb26,hb32,hb34,hb25']
 refine Spec.by (r01_Same_spec hy35) (by simp only [seval,FMLOpposite,hb25,hb26,hb32,hb34,hb25']) ?_
 simp only [seval,EMLOpposite,SB,hb25,hb26,hb32,hb34,hb25']
 cases h
 simp only [seval,FMLOpposite,hb25,hb26,hb32,hb34,hb25']
 have hb25' := hb25
 simp only [hb26] at hb25'
 refine .regionD [] (by kernel_rfl) fun e h=>?_
 simp only [seval,EMLOpposite,SB,ag_29,sz_29,hb25,hb26,hb32,hb25']
 refine Spec.by (r01_FromInt64_spec hy23) (by simp only [seval,FMLOpposite,hb25,hb26,hb32,hb25']) ?_
 simp only [seval,EMLOpposite,SB,hb25,hb26,hb32,hb25']
 refine Spec.by (r01_Same_spec hy24) (by simp only [seval,FMLOpposite,hb25,hb26,hb32,hb25']) ?_
 simp only [seval,EMLOpposite,SB,und_4,ag_29,sz_29,hb25,hb26,hb32,hb25']
 refine Spec.by (r01_FromInt64_spec hy30) (by simp only [seval,FMLOpposite,hb25,hb26,hb32,hb25']) ?_
 simp only [seval,EMLOpposite,SB,hb25,hb26,hb32,hb25']
 refine Spec.by (r01_Same_spec hy31) (by simp only [seval,FMLOpposite,hb25,hb26,hb32,hb25']) ?_
 simp only [seval,EMLOpposite,SB,hb25,hb26,hb32,hb25']
 cases h
 simp only [seval,FMLOpposite,hb25,hb26,hb32,hb25']
 refine .regionD [] (by kernel_rfl) fun e h=>?_
 simp only [seval,EMLOpposite,SB,ag_29,sz_29,hb25]
 refine Spec.by (r01_FromInt64_spec hy23) (by simp only [seval,FMLOpposite,hb25]) ?_
 simp only [seval,EMLOpposite,SB,hb25]
 refine Spec.by (r01_Same_spec hy24) (by simp only [seval,FMLOpposite,hb25]) ?_
 simp only [seval,EMLOpposite,SB,und_4,hb25]
 cases h
 simp only [seval,FMLOpposite,hb25]
 intro v2
 refine Mir.toK (.ret fun e h=>?_)
 cases h
 simp only [seval,FMLOpposite,Tryz.results4]
theorem co_22 : Tryz.prog.cellsOf 22 = 1 := by kernel_rfl
theorem opn_22 : Opn Tryz.prog 22 (eInt .i16) (inInt .i16) := Opn.int Tryz.underlying22
theorem co_23 : Tryz.prog.cellsOf 23 = 1 := by kernel_rfl
theorem opn_23 : Opn Tryz.prog 23 (eInt .u16) (inInt .u16) := Opn.int Tryz.underlying23
theorem co_5 : Tryz.prog.cellsOf 5 = 1 := by kernel_rfl
theorem opn_5 : Opn Tryz.prog 5 (eInt .u8) (inInt .u8) := Opn.int Tryz.underlying5
def inR03Surd (x : R03Surd) : Prop := (inInt .i16) x.A ∧ (inInt .i16) x.B ∧ (inInt .u16) x.C ∧ (inInt .u8) x.D ∧ (inInt .u8) x.E ∧ (inInt .u8) x.F
theorem co_25 : Tryz.prog.cellsOf 25 = 6 := by kernel_rfl
theorem opn_25 : Opn Tryz.prog 25 encR03Surd inR03Surd := by
 intro w H enc fuel cs x h
 obtain ⟨xs, n, _, _, hl, hxl, hf⟩ := DataW.trod_struct Tryz.underlying25 h
 have hxl' : xs.length = 6 := hxl
 obtain ⟨s0, r0, o0⟩ := Opn.field hf 0 22 0 1 rfl co_22 (by omega) opn_22
 obtain ⟨s1, r1, o1⟩ := Opn.field hf 1 22 1 1 rfl co_22 (by omega) opn_22
 obtain ⟨s2, r2, o2⟩ := Opn.field hf 2 23 2 1 rfl co_23 (by omega) opn_23
 obtain ⟨s3, r3, o3⟩ := Opn.field hf 3 5 3 1 rfl co_5 (by omega) opn_5
 obtain ⟨s4, r4, o4⟩ := Opn.field hf 4 5 4 1 rfl co_5 (by omega) opn_5
 obtain ⟨s5, r5, o5⟩ := Opn.field hf 5 5 5 1 rfl co_5 (by omega) opn_5
 refine ⟨⟨s0, s1, s2, s3, s4, s5⟩, ?_, o0, o1, o2, o3, o4, o5⟩
 exact (RelC.cut 0 1 r0 rfl (RelC.cut 1 1 r1 rfl (RelC.cut 2 1 r2 rfl (RelC.cut 3 1 r3 rfl (RelC.cut 4 1 r4 rfl (RelC.cut 5 1 r5 rfl (RelC.nil (n := 6) (by rw [hl, co_25]; exact Nat.le_refl _))))))))
end Go.Proofs.YtipefnighcdgnaaGreatDoor
