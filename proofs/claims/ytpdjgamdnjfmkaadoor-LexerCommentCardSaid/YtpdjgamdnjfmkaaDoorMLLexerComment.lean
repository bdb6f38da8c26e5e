import Derived.Test.YtpdjgamdnjfmkaaDoorGx
import Derived.Test.YtpdjgamdnjfmkaaDoorTy
import Derived.Test.YtpdjgamdnjfmkaaDoorGo
import Derived.Test.YtpdjgamdnjfmkaaDoorMI
import Derived.Test.YtpdjgamdnjfmkaaDoorMQ
import Derived.Test.YtpdjgamdnjfmkaaDoorMB
import Derived.Test.YtpdjgamdnjfmkaaDoorMT
import Derived.Test.YtpdjgamdnjfmkaaDoorMX
import Derived.Test.YtpdjgamdnjfmkaaDoorMK
namespace Go.Proofs.YtpdjgamdnjfmkaaDoor
open Go.RowKit
open Nat renaming reduceAdd → nA, reduceSub → nS, reduceMul → nM, reduceEqDiff → nE, reduceLeDiff → nL, reduceLT → nT, reduceBEq → nB
open Int renaming reduceLT → iT, reduceToNat → iN, reduceEq → iE
set_option linter.unusedVariables false
set_option linter.unusedSimpArgs false
set_option maxRecDepth 100000
set_option maxHeartbeats 8000000
theorem EMLLexerComment : type_of% (@SE) := @SE
theorem FMLLexerComment : type_of% (@SF) := @SF
def l21_LexerComment (a0 : (List UInt8)) (a1 : (List UInt8)) : Option Bool := bindO (bindO (l21_awake ) fun (y1 : Bool) => if y1 = true then if (decide ((a0.length : Int) > 300)) = true then some true else some (decide ((a1.length : Int) > 100)) else some true) fun (v1 : Bool) => if v1 = true then bindO (l21_awake ) fun (y2 : Bool) => some y2 else guardO (okStr a0 [35]) ( guardO (okStr (a0 ++ [35]) a1) ( bindO (lx_Tokens ((a0 ++ [35]) ++ a1)) fun (y3 : (List LexerToken) × Int × Int) => guardO (okStr a0 [35]) ( bindO (lx_Tokens (a0 ++ [35])) fun (y4 : (List LexerToken) × Int × Int) => bindO (if (y3.2.2 == y4.2.2) = true then if (y3.2.1 == y4.2.1) = true then bindO (l21_own y3.1) fun (y5 : (List R21Token)) => bindO (l21_own y4.1) fun (y6 : (List R21Token)) => bindO (r21_Same y5 y6) fun (y7 : Bool) => some y7 else some false else some false) fun (v2 : Bool) => some v2)))
theorem l21_LexerComment_spec {a0 : (List UInt8)} {a1 : (List UInt8)} {y : Bool} (h : l21_LexerComment a0 a1 = some y) : Spec gP 5 [.d (.str a0), .d (.str a1)] (.d (.bool y)) := by
 refine spec_mir Tryd.func5 rfl (by kernel_rfl) (by kernel_rfl) (fun y : Bool => .d (.bool y)) ?_ h
 unfold l21_LexerComment
 simp only [List.replicate, List.length, nS, nA, Tryd.ntmps5, SV]
 refine .sR fun e h=>?_
 simp only [seval,EMLLexerComment]
 refine mU e (.seqK (.seqK (Mir.joinO (fun v1 : Bool=>([.d (.str a0),.d (.str a1),U,U,U,U,U,U,U,U,U,U,U,U,U,U,U,U,U,U,U,U,.d (.bool v1)] ++ us 32)) (fun v1=>⟨[],[]⟩) (fun _=>rfl) ?_ ?_))) h
 refine .bind fun y1 hy1=>.ite (fun hb2=>?_) (fun hb2=>?_)
 refine .ite (fun hb3=>?_) (fun hb3=>?_)
 refine .region fun e h=>?_
 simp only [seval,EMLLexerComment,hb2,hb3]
 refine SpecS.by (l21_awake_spec hy1) (rfl) ?_
 simp only [seval,EMLLexerComment,und_9,hb2,hb3]
 cases h
 simp only [seval,FMLLexerComment,hb2,hb3]
 refine .region fun e h=>?_
 simp only [seval,EMLLexerComment,hb2,hb3]
 refine SpecS.by (l21_awake_spec hy1) (rfl) ?_
 simp only [seval,EMLLexerComment,und_9,hb2,hb3]
 cases h
 simp only [seval,FMLLexerComment,hb2,hb3]
 refine .region fun e h=>?_
 simp only [seval,EMLLexerComment,hb2]
 refine SpecS.by (l21_awake_spec hy1) (rfl) ?_
 simp only [seval,EMLLexerComment,hb2]
 cases h
 simp only [seval,FMLLexerComment,hb2]
 intro v1
 refine Mir.toK (.cond rfl (fun hb6=>?_) (fun hb6=>?_))
 refine .seqK (.bind fun y2 hy7=>.region fun e h=>?_)
 simp only [seval,EMLLexerComment]
 refine SpecS.by (l21_awake_spec hy7) (rfl) ?_
 simp only [seval,EMLLexerComment]
 refine mU e (.ret fun e h=>?_) h
 cases h
 simp only [seval,FMLLexerComment,Tryd.results5]
 refine .skip (Mir.toK (.seqK (.guard fun q8=>?_)))
 replace q8 := okStr_ok q8
 try simp only [lm,xNA,xCA,xAN,xLC,xLN,xAC,xAL,nA,Nat.zero_add] at q8
 refine .guard fun q9=>?_
 replace q9 := okStr_ok q9
 try simp only [lm,xNA,xCA,xAN,xLC,xLN,xAC,xAL,nA,Nat.zero_add] at q9
 refine .bind fun y3 hy10=>.region fun e h=>?_
 simp only [seval,EMLLexerComment,q8,q9]
 refine SpecS.by (lx_Tokens_spec hy10) (by simp only [seval,FMLLexerComment]) ?_
 simp only [seval,EMLLexerComment]
 refine mU e (.seqK (.guard fun q11=>?_)) h
 replace q11 := okStr_ok q11
 try simp only [lm,xNA,xCA,xAN,xLC,xLN,xAC,xAL,nA,Nat.zero_add] at q11
 refine .bind fun y4 hy12=>.region fun e h=>?_
 simp only [seval,EMLLexerComment,q11]
 refine SpecS.by (lx_Tokens_spec hy12) (by simp only [seval,FMLLexerComment]) ?_
 simp only [seval,EMLLexerComment]
 refine mU e (.seqK (Mir.joinO (fun v2 : Bool=>([U,U,U,U,.d (.bool v2)] ++ us 50)) (fun v2=>⟨[],[]⟩) (fun _=>rfl) ?_ ?_)) h
 refine .ite (fun hb13=>?_) (fun hb13=>?_)
 refine .ite (fun hb14=>?_) (fun hb14=>?_)
 refine .bind fun y5 hy15=>.bind fun y6 hy16=>.bind fun y7 hy17=>.region fun e h=>?_
 simp only [seval,EMLLexerComment,hb13,hb14]
 refine SpecS.by (l21_own_spec hy15) (by simp only [seval,FMLLexerComment,hb13,hb14]) ?_
 simp only [seval,EMLLexerComment,hb13,hb14]
 refine SpecS.by (l21_own_spec hy16) (by simp only [seval,FMLLexerComment,hb13,hb14]) ?_
 simp only [seval,EMLLexerComment,hb13,hb14]
 refine SpecS.by (r21_Same_spec hy17) (by simp only [seval,FMLLexerComment,hb13,hb14]) ?_
 simp only [seval,EMLLexerComment,hb13,hb14]
 cases h
 simp only [seval,FMLLexerComment,hb13,hb14]
 refine .region fun e h=>?_
 simp only [seval,EMLLexerComment,hb13,hb14]
 cases h
 simp only [seval,FMLLexerComment,hb13,hb14]
 refine .region fun e h=>?_
 simp only [seval,EMLLexerComment,hb13]
 cases h
 simp only [seval,FMLLexerComment,hb13]
 intro v2
 refine Mir.toK (.ret fun e h=>?_)
 cases h
 simp only [seval,FMLLexerComment,Tryd.results5]
theorem opn_9 : Opn Tryd.prog 9 eStr inStr := Opn.str Tryd.underlying9
end Go.Proofs.YtpdjgamdnjfmkaaDoor
