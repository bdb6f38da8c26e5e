import Derived.Test.YtpdjgamdnjfmkaaDoorGx
import Derived.Test.YtpdjgamdnjfmkaaDoorTy
import Derived.Test.YtpdjgamdnjfmkaaDoorGo
import Derived.Test.YtpdjgamdnjfmkaaDoorMI
import Derived.Test.YtpdjgamdnjfmkaaDoorMQ
import Derived.Test.YtpdjgamdnjfmkaaDoorMB
import Derived.Test.YtpdjgamdnjfmkaaDoorMT
import Derived.Test.YtpdjgamdnjfmkaaDoorMX
import Derived.Test.YtpdjgamdnjfmkaaDoorMK
namespace Go.Proofs.YtpdjgamdnjfmkaaDoor
open Go.RowKit
open Nat renaming reduceAdd → nA, reduceSub → nS, reduceMul → nM, reduceEqDiff → nE, reduceLeDiff → nL, reduceLT → nT, reduceBEq → nB
open Int renaming reduceLT → iT, reduceToNat → iN, reduceEq → iE
set_option linter.unusedVariables false
set_option linter.unusedSimpArgs false
set_option maxRecDepth 100000
set_option maxHeartbeats 8000000
theorem EMLLexerName : type_of% (And.intro @SE <| @ENMK) := And.intro @SE <| @ENMK
theorem FMLLexerName : type_of% (And.intro @SF <| @ENMK) := And.intro @SF <| @ENMK
def l21_LexerName (a0 : (List UInt8)) : Option Bool := bindO (bindO (l21_awake ) fun (y1 : Bool) => if y1 = true then some (decide ((a0.length : Int) > 100)) else some true) fun (v1 : Bool) => if v1 = true then bindO (l21_awake ) fun (y2 : Bool) => some y2 else bindO (r21_IsName a0) fun (y3 : Bool) => bindO (lx_Tokens a0) fun (y4 : (List LexerToken) × Int × Int) => bindO (bindO (lx_IsName a0) fun (y5 : Bool) => if (y5 == y3) = true then if y3 = true then if (y4.2.2 == 0) = true then if ((y4.1.length : Int) == 1) = true then bindO (gt y4.1 0) fun (e1 : LexerToken) => some ((e1.Kind == 1) && ((e1.Pos == 0) && (e1.Text == a0))) else some false else some false else some true else some false) fun (v2 : Bool) => some v2
theorem l21_LexerName_spec {a0 : (List UInt8)} {y : Bool} (h : l21_LexerName a0 = some y) : Spec gP 6 [.d (.str a0)] (.d (.bool y)) := by
 refine spec_mir Tryd.func6 rfl (by kernel_rfl) (by kernel_rfl) (fun y : Bool => .d (.bool y)) ?_ h
 unfold l21_LexerName
 simp only [List.replicate, List.length, nS, nA, Tryd.ntmps6, SV]
 refine .sR fun e h=>?_
 simp only [seval,EMLLexerName]
 refine mU e (.seqK (.seqK (Mir.joinO (fun v1 : Bool=>([.d (.str a0),U,U,U,U,U,U,U,U,U,U,U,U,.d (.bool v1)] ++ us 34)) (fun v1=>⟨[],[]⟩) (fun _=>rfl) ?_ ?_))) h
 refine .bind fun y1 hy1=>.ite (fun hb2=>?_) (fun hb2=>?_)
 refine .region fun e h=>?_
 simp only [seval,EMLLexerName,hb2]
 refine SpecS.by (l21_awake_spec hy1) (rfl) ?_
 simp only [seval,EMLLexerName,und_9,hb2]
 cases h
 simp only [seval,FMLLexerName,hb2]
 refine .region fun e h=>?_
 simp only [seval,EMLLexerName,hb2]
 refine SpecS.by (l21_awake_spec hy1) (rfl) ?_
 simp only [seval,EMLLexerName,hb2]
 cases h
 simp only [seval,FMLLexerName,hb2]
 intro v1
 refine Mir.toK (.cond rfl (fun hb5=>?_) (fun hb5=>?_))
 refine .seqK (.bind fun y2 hy6=>.region fun e h=>?_)
 simp only [seval,EMLLexerName]
 refine SpecS.by (l21_awake_spec hy6) (rfl) ?_
 simp only [seval,EMLLexerName]
 refine mU e (.ret fun e h=>?_) h
 cases h
 simp only [seval,FMLLexerName,Tryd.results6]
 refine .skip (Mir.toK (.seqK (.bind fun y3 hy7=>.region fun e h=>?_)))
 simp only [seval,EMLLexerName]
 refine SpecS.by (r21_IsName_spec hy7) (by simp only [seval,FMLLexerName]) ?_
 simp only [seval,EMLLexerName]
 refine mU e (.seqK (.bind fun y4 hy8=>.region fun e h=>?_)) h
 simp only [seval,EMLLexerName]
 refine SpecS.by (lx_Tokens_spec hy8) (by simp only [seval,FMLLexerName]) ?_
 simp only [seval,EMLLexerName]
 refine mU e (.seqK (Mir.joinO (fun v2 : Bool=>([U,U,.d (.bool v2)] ++ us 45)) (fun v2=>⟨[],[]⟩) (fun _=>rfl) ?_ ?_)) h
 refine .bind fun y5 hy9=>.ite (fun hb10=>?_) (fun hb10=>?_)
 refine .ite (fun hb11=>?_) (fun hb11=>?_)
 refine .ite (fun hb12=>?_) (fun hb12=>?_)
 refine .ite (fun hb13=>?_) (fun hb13=>?_)
 refine .bind fun e1 q14=>?_
 replace q14 := gt_ok q14
 simp only [Int.reduceToNat,Int.reduceLT,Nat.sub_zero,dp0] at q14
 have hb10' := hb10
 simp only [hb11] at hb10'
 refine .region fun e h=>?_
 simp only [seval,EMLLexerName,hb10,hb11,hb12,hb13,hb10']
 refine SpecS.by (lx_IsName_spec hy9) (by simp only [seval,FMLLexerName,hb10,hb11,hb12,hb13,hb10']) ?_
 simp only [seval,EMLLexerName,und_4,und_23,sz_28,q14,ag_28,zero_28,pl_28,gE_28,hb10,hb11,hb12,hb13,hb10']
 cases h
 simp only [seval,FMLLexerName,hb10,hb11,hb12,hb13,hb10']
 have hb10' := hb10
 simp only [hb11] at hb10'
 refine .region fun e h=>?_
 simp only [seval,EMLLexerName,hb10,hb11,hb12,hb13,hb10']
 refine SpecS.by (lx_IsName_spec hy9) (by simp only [seval,FMLLexerName,hb10,hb11,hb12,hb13,hb10']) ?_
 simp only [seval,EMLLexerName,und_4,und_23,hb10,hb11,hb12,hb13,hb10']
 cases h
 simp only [seval,FMLLexerName,hb10,hb11,hb12,hb13,hb10']
 have hb10' := hb10
 simp only [hb11] at hb10'
 refine .region fun e h=>?_
 simp only [seval,EMLLexerName,hb10,hb11,hb12,hb10']
 refine SpecS.by (lx_IsName_spec hy9) (by simp only [seval,FMLLexerName,hb10,hb11,hb12,hb10']) ?_
 simp only [seval,EMLLexerName,und_4,hb10,hb11,hb12,hb10']
 cases h
 simp only [seval,FMLLexerName,hb10,hb11,hb12,hb10']
 have hb10' := hb10
 simp only [hb11] at hb10'
 refine .region fun e h=>?_
 simp only [seval,EMLLexerName,hb10,hb11,hb10']
 refine SpecS.by (lx_IsName_spec hy9) (by simp only [seval,FMLLexerName,hb10,hb11,hb10']) ?_
 simp only [seval,EMLLexerName,und_4,hb10,hb11,hb10']
 cases h
 simp only [seval,FMLLexerName,hb10,hb11,hb10']
 refine .region fun e h=>?_
 simp only [seval,EMLLexerName,hb10]
 refine SpecS.by (lx_IsName_spec hy9) (by simp only [seval,FMLLexerName,hb10]) ?_
 simp only [seval,EMLLexerName,und_4,hb10]
 cases h
 simp only [seval,FMLLexerName,hb10]
 intro v2
 refine Mir.toK (.ret fun e h=>?_)
 cases h
 simp only [seval,FMLLexerName,Tryd.results6]
theorem opn_9 : Opn Tryd.prog 9 eStr inStr := Opn.str Tryd.underlying9
end Go.Proofs.YtpdjgamdnjfmkaaDoor
