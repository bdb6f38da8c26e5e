import Derived.Test.YtpdjgamdnjfmkaaGreatDoorGx
import Derived.Test.YtpdjgamdnjfmkaaGreatDoorTy
import Derived.Test.YtpdjgamdnjfmkaaGreatDoorGo
import Derived.Test.YtpdjgamdnjfmkaaGreatDoorMI
import Derived.Test.YtpdjgamdnjfmkaaGreatDoorMQ
import Derived.Test.YtpdjgamdnjfmkaaGreatDoorMB
import Derived.Test.YtpdjgamdnjfmkaaGreatDoorMT
import Derived.Test.YtpdjgamdnjfmkaaGreatDoorMX
import Derived.Test.YtpdjgamdnjfmkaaGreatDoorMK
namespace Go.Proofs.YtpdjgamdnjfmkaaGreatDoor
open Go.RowKit
open Nat renaming reduceAdd → nA, reduceSub → nS, reduceMul → nM, reduceEqDiff → nE, reduceLeDiff → nL, reduceLT → nT, reduceBEq → nB
open Int renaming reduceLT → iT, reduceToNat → iN, reduceEq → iE
set_option linter.unusedVariables false
set_option linter.unusedSimpArgs false
set_option maxRecDepth 100000
set_option maxHeartbeats 8000000
theorem EMLLexerValues : type_of% (And.intro @SE <| @ENMK) := And.intro @SE <| @ENMK
theorem FMLLexerValues : type_of% (And.intro @SF <| @ENMK) := And.intro @SF <| @ENMK
def l21_LexerValues (a0 : Int) (a1 : (List UInt8)) : Option Bool := bindO (bindO (l21_awake ) fun (y1 : Bool) => if y1 = true then some (decide ((a1.length : Int) > 60)) else some true) fun (v1 : Bool) => if v1 = true then bindO (l21_awake ) fun (y2 : Bool) => some y2 else bindO (lx_Integer (LexerToken.mk a0 0 a1)) fun (y3 : Int × Bool) => bindO (r21_Integer (R21Token.mk a0 0 a1)) fun (y4 : Int × Bool) => bindO (lx_Length (LexerToken.mk a0 0 a1)) fun (y5 : ApiRat × Bool) => bindO (r21_Length (R21Token.mk a0 0 a1)) fun (y6 : ApiRat × Bool) => bindO (if (y3.1 == y4.1) = true then if (y3.2 == y4.2) = true then if (y5.2 == y6.2) = true then if y5.2 = true then bindO (r02_Same y5.1 y6.1) fun (y7 : Bool) => if y7 = true then bindO (lx_Shape [LexerToken.mk a0 0 a1, LexerToken.mk a0 0 a1]) fun (y8 : (List UInt8)) => bindO (r21_Shape [R21Token.mk a0 0 a1, R21Token.mk a0 0 a1]) fun (y9 : (List UInt8)) => some (y8 == y9) else some false else bindO (lx_Shape [LexerToken.mk a0 0 a1, LexerToken.mk a0 0 a1]) fun (y10 : (List UInt8)) => bindO (r21_Shape [R21Token.mk a0 0 a1, R21Token.mk a0 0 a1]) fun (y11 : (List UInt8)) => some (y10 == y11) else some false else some false else some false) fun (v2 : Bool) => some v2
theorem l21_LexerValues_spec {a0 : Int} {a1 : (List UInt8)} {y : Bool} (h : l21_LexerValues a0 a1 = some y) : Spec gP 5 [.d (.int .i64 a0), .d (.str a1)] (.d (.bool y)) := by
 refine spec_mir Tryz.func5 rfl (by kernel_rfl) (by kernel_rfl) (fun y : Bool => .d (.bool y)) ?_ h
 unfold l21_LexerValues
 simp only [List.replicate, List.length, nS, nA, Tryz.ntmps5, SV]
 refine .sR fun e h=>?_
 simp only [seval,EMLLexerValues]
 refine mU e (.seqK (.seqK (Mir.joinO (fun v1 : Bool=>([.d (.int .i64 a0),.d (.str a1),U,U,U,U,U,U,U,U,U,U,U,U,U,U,U,U,U,U,U,.d (.bool v1)] ++ us 60)) (fun v1=>⟨[],[]⟩) (fun _=>rfl) ?_ ?_))) h
 refine .bind fun y1 hy1=>.ite (fun hb2=>?_) (fun hb2=>?_)
 refine .region fun e h=>?_
 simp only [seval,EMLLexerValues,hb2]
 refine SpecS.by (l21_awake_spec hy1) (rfl) ?_
 simp only [seval,EMLLexerValues,und_9,hb2]
 cases h
 simp only [seval,FMLLexerValues,hb2]
 refine .region fun e h=>?_
 simp only [seval,EMLLexerValues,hb2]
 refine SpecS.by (l21_awake_spec hy1) (rfl) ?_
 simp only [seval,EMLLexerValues,hb2]
 cases h
 simp only [seval,FMLLexerValues,hb2]
 intro v1
 refine Mir.toK (.cond rfl (fun hb5=>?_) (fun hb5=>?_))
 refine .seqK (.bind fun y2 hy6=>.region fun e h=>?_)
 simp only [seval,EMLLexerValues]
 refine SpecS.by (l21_awake_spec hy6) (rfl) ?_
 simp only [seval,EMLLexerValues]
 refine mU e (.ret fun e h=>?_) h
 cases h
 simp only [seval,FMLLexerValues,Tryz.results5]
 refine .skip (Mir.toK (.sR fun e h=>?_))
 simp only [seval,EMLLexerValues,zero_44,pl_44,zero_45,pl_45,sz_44,sz_45]
 refine mU e (.seqK (.bind fun y3 hy7=>.region fun e h=>?_)) h
 simp only [seval,EMLLexerValues,ag_44,sz_44]
 refine SpecS.by (lx_Integer_spec hy7) (by simp only [seval,FMLLexerValues]) ?_
 simp only [seval,EMLLexerValues]
 refine mU e (.seqK (.bind fun y4 hy8=>.region fun e h=>?_)) h
 simp only [seval,EMLLexerValues,ag_45,sz_45]
 refine SpecS.by (r21_Integer_spec hy8) (by simp only [seval,FMLLexerValues]) ?_
 simp only [seval,EMLLexerValues]
 refine mU e (.seqK (.bind fun y5 hy9=>.region fun e h=>?_)) h
 simp only [seval,EMLLexerValues,ag_44,sz_44]
 refine SpecS.by (lx_Length_spec hy9) (by simp only [seval,FMLLexerValues]) ?_
 simp only [seval,EMLLexerValues,zero_53,sz_53]
 refine mU e (.seqK (.bind fun y6 hy10=>.region fun e h=>?_)) h
 simp only [seval,EMLLexerValues,ag_45,sz_45]
 refine SpecS.by (r21_Length_spec hy10) (by simp only [seval,FMLLexerValues]) ?_
 simp only [seval,EMLLexerValues,zero_53,sz_53]
 refine mU e (.seqK (Mir.joinO (fun v2 : Bool=>([U,U,U,U,.d (.bool v2)] ++ us 77)) (fun v2=>⟨[[.d (.int .i64 a0),.d (.int .i64 0),.d (.str a1)],[.d (.int .i64 a0),.d (.int .i64 0),.d (.str a1)],[.d (.bool y5.1.Num.Neg),.d (.list (List.map (eInt .u32) y5.1.Num.Limbs)),.d (.bool y5.1.Den.Neg),.d (.list (List.map (eInt .u32) y5.1.Den.Limbs))],[.d (.bool y6.1.Num.Neg),.d (.list (List.map (eInt .u32) y6.1.Num.Limbs)),.d (.bool y6.1.Den.Neg),.d (.list (List.map (eInt .u32) y6.1.Den.Limbs))]],[]⟩) (fun _=>rfl) ?_ ?_)) h
 refine .ite (fun hb11=>?_) (fun hb11=>?_)
 refine .ite (fun hb12=>?_) (fun hb12=>?_)
 refine .ite (fun hb13=>?_) (fun hb13=>?_)
 refine .ite (fun hb14=>?_) (fun hb14=>?_)
 refine .bind fun y7 hy15=>.ite (fun hb16=>?_) (fun hb16=>?_)
 refine .bind fun y8 hy17=>.bind fun y9 hy18=>?_
 have hb13' := hb13
 simp only [hb14] at hb13'
 refine .regionD [] (by kernel_rfl) fun e h=>?_
 simp only [seval,EMLLexerValues,SB,und_4,ag_53,sz_53,hb11,hb12,hb13,hb14,hb16,hb13']
 refine Spec.by (r02_Same_spec hy15) (by simp only [seval,FMLLexerValues,hb11,hb12,hb13,hb14,hb16,hb13']) ?_
 simp only [seval,EMLLexerValues,SB,ag_44,sz_44,und_23,zero_44,(oL 6),hb11,hb12,hb13,hb14,hb16,hb13']
 refine Spec.by (lx_Shape_spec hy17) (by simp only [seval,FMLLexerValues,hb11,hb12,hb13,hb14,hb16,hb13']) ?_
 simp only [seval,EMLLexerValues,SB,ag_45,sz_45,und_27,zero_45,(oL 6),hb11,hb12,hb13,hb14,hb16,hb13']
 refine Spec.by (r21_Shape_spec hy18) (by simp only [seval,FMLLexerValues,hb11,hb12,hb13,hb14,hb16,hb13']) ?_
 simp only [seval,EMLLexerValues,SB,hb11,hb12,hb13,hb14,hb16,hb13']
 cases h
 simp only [seval,FMLLexerValues,hb11,hb12,hb13,hb14,hb16,hb13']
 have hb13' := hb13
 simp only [hb14] at hb13'
 refine .regionD [] (by kernel_rfl) fun e h=>?_
 simp only [seval,EMLLexerValues,SB,und_4,ag_53,sz_53,hb11,hb12,hb13,hb14,hb16,hb13']
 refine Spec.by (r02_Same_spec hy15) (by simp only [seval,FMLLexerValues,hb11,hb12,hb13,hb14,hb16,hb13']) ?_
 simp only [seval,EMLLexerValues,SB,hb11,hb12,hb13,hb14,hb16,hb13']
 cases h
 simp only [seval,FMLLexerValues,hb11,hb12,hb13,hb14,hb16,hb13']
 refine .bind fun y10 hy19=>.bind fun y11 hy20=>?_
 have hb13' := hb13
 simp only [hb14] at hb13'
 refine .regionD [] (by kernel_rfl) fun e h=>?_
 simp only [seval,EMLLexerValues,SB,und_4,ag_44,sz_44,und_23,zero_44,(oL 6),hb11,hb12,hb13,hb14,hb13']
 refine Spec.by (lx_Shape_spec hy19) (by simp only [seval,FMLLexerValues,hb11,hb12,hb13,hb14,hb13']) ?_
 simp only [seval,EMLLexerValues,SB,ag_45,sz_45,und_27,zero_45,(oL 6),hb11,hb12,hb13,hb14,hb13']
 refine Spec.by (r21_Shape_spec hy20) (by simp only [seval,FMLLexerValues,hb11,hb12,hb13,hb14,hb13']) ?_
 simp only [seval,EMLLexerValues,SB,hb11,hb12,hb13,hb14,hb13']
 cases h
 simp only [seval,FMLLexerValues,hb11,hb12,hb13,hb14,hb13']
 refine .regionD [] (by kernel_rfl) fun e h=>?_
 simp only [seval,EMLLexerValues,SB,und_4,hb11,hb12,hb13]
 cases h
 simp only [seval,FMLLexerValues,hb11,hb12,hb13]
 refine .regionD [] (by kernel_rfl) fun e h=>?_
 simp only [seval,EMLLexerValues,SB,und_4,hb11,hb12]
 cases h
 simp only [seval,FMLLexerValues,hb11,hb12]
 refine .regionD [] (by kernel_rfl) fun e h=>?_
 simp only [seval,EMLLexerValues,SB,hb11]
 cases h
 simp only [seval,FMLLexerValues,hb11]
 intro v2
 refine Mir.toK (.ret fun e h=>?_)
 cases h
 simp only [seval,FMLLexerValues,Tryz.results5]
theorem opn_3 : Opn Tryz.prog 3 (eInt .i64) (inInt .i64) := Opn.int Tryz.underlying3
theorem opn_9 : Opn Tryz.prog 9 eStr inStr := Opn.str Tryz.underlying9
end Go.Proofs.YtpdjgamdnjfmkaaGreatDoor
