import Derived.Test.YtpdjgamdnjfmkaaGreatDoorGx
import Derived.Test.YtpdjgamdnjfmkaaGreatDoorTy
import Derived.Test.YtpdjgamdnjfmkaaGreatDoorGo
import Derived.Test.YtpdjgamdnjfmkaaGreatDoorMI
import Derived.Test.YtpdjgamdnjfmkaaGreatDoorMQ
import Derived.Test.YtpdjgamdnjfmkaaGreatDoorMB
import Derived.Test.YtpdjgamdnjfmkaaGreatDoorMT
import Derived.Test.YtpdjgamdnjfmkaaGreatDoorMX
import Derived.Test.YtpdjgamdnjfmkaaGreatDoorMK
namespace Go.Proofs.YtpdjgamdnjfmkaaGreatDoor
open Go.RowKit
open Nat renaming reduceAdd → nA, reduceSub → nS, reduceMul → nM, reduceEqDiff → nE, reduceLeDiff → nL, reduceLT → nT, reduceBEq → nB
open Int renaming reduceLT → iT, reduceToNat → iN, reduceEq → iE
set_option linter.unusedVariables false
set_option linter.unusedSimpArgs false
set_option maxRecDepth 100000
set_option maxHeartbeats 8000000
theorem EMLLexerTokens : type_of% (@SE) := @SE
theorem FMLLexerTokens : type_of% (@SF) := @SF
def l21_LexerTokens (a0 : (List UInt8)) : Option Bool := bindO (bindO (l21_awake ) fun (y1 : Bool) => if y1 = true then some (decide ((a0.length : Int) > 300)) else some true) fun (v1 : Bool) => if v1 = true then bindO (l21_awake ) fun (y2 : Bool) => some y2 else bindO (lx_Tokens a0) fun (y3 : (List LexerToken) × Int × Int) => bindO (r21_Tokens a0) fun (y4 : (List R21Token) × Int × Int) => bindO (if (y3.2.2 == y4.2.2) = true then if (y3.2.1 == y4.2.1) = true then bindO (l21_own y3.1) fun (y5 : (List R21Token)) => bindO (r21_Same y5 y4.1) fun (y6 : Bool) => some y6 else some false else some false) fun (v2 : Bool) => some v2
theorem l21_LexerTokens_spec {a0 : (List UInt8)} {y : Bool} (h : l21_LexerTokens a0 = some y) : Spec gP 3 [.d (.str a0)] (.d (.bool y)) := by
 refine spec_mir Tryz.func3 rfl (by kernel_rfl) (by kernel_rfl) (fun y : Bool => .d (.bool y)) ?_ h
 unfold l21_LexerTokens
 simp only [List.replicate, List.length, nS, nA, Tryz.ntmps3, SV]
 refine .sR fun e h=>?_
 simp only [seval,EMLLexerTokens]
 refine mU e (.seqK (.seqK (Mir.joinO (fun v1 : Bool=>([.d (.str a0),U,U,U,U,U,U,U,U,U,U,U,U,U,U,.d (.bool v1)] ++ us 27)) (fun v1=>⟨[],[]⟩) (fun _=>rfl) ?_ ?_))) h
 refine .bind fun y1 hy1=>.ite (fun hb2=>?_) (fun hb2=>?_)
 refine .region fun e h=>?_
 simp only [seval,EMLLexerTokens,hb2]
 refine SpecS.by (l21_awake_spec hy1) (rfl) ?_
 simp only [seval,EMLLexerTokens,und_9,hb2]
 cases h
 simp only [seval,FMLLexerTokens,hb2]
 refine .region fun e h=>?_
 simp only [seval,EMLLexerTokens,hb2]
 refine SpecS.by (l21_awake_spec hy1) (rfl) ?_
 simp only [seval,EMLLexerTokens,hb2]
 cases h
 simp only [seval,FMLLexerTokens,hb2]
 intro v1
 refine Mir.toK (.cond rfl (fun hb5=>?_) (fun hb5=>?_))
 refine .seqK (.bind fun y2 hy6=>.region fun e h=>?_)
 simp only [seval,EMLLexerTokens]
 refine SpecS.by (l21_awake_spec hy6) (rfl) ?_
 simp only [seval,EMLLexerTokens]
 refine mU e (.ret fun e h=>?_) h
 cases h
 simp only [seval,FMLLexerTokens,Tryz.results3]
 refine .skip (Mir.toK (.seqK (.bind fun y3 hy7=>.region fun e h=>?_)))
 simp only [seval,EMLLexerTokens]
 refine SpecS.by (lx_Tokens_spec hy7) (by simp only [seval,FMLLexerTokens]) ?_
 simp only [seval,EMLLexerTokens]
 refine mU e (.seqK (.bind fun y4 hy8=>.region fun e h=>?_)) h
 simp only [seval,EMLLexerTokens]
 refine SpecS.by (r21_Tokens_spec hy8) (by simp only [seval,FMLLexerTokens]) ?_
 simp only [seval,EMLLexerTokens]
 refine mU e (.seqK (Mir.joinO (fun v2 : Bool=>([U,U,.d (.bool v2)] ++ us 40)) (fun v2=>⟨[],[]⟩) (fun _=>rfl) ?_ ?_)) h
 refine .ite (fun hb9=>?_) (fun hb9=>?_)
 refine .ite (fun hb10=>?_) (fun hb10=>?_)
 refine .bind fun y5 hy11=>.bind fun y6 hy12=>.region fun e h=>?_
 simp only [seval,EMLLexerTokens,hb9,hb10]
 refine SpecS.by (l21_own_spec hy11) (by simp only [seval,FMLLexerTokens,hb9,hb10]) ?_
 simp only [seval,EMLLexerTokens,hb9,hb10]
 refine SpecS.by (r21_Same_spec hy12) (by simp only [seval,FMLLexerTokens,hb9,hb10]) ?_
 simp only [seval,EMLLexerTokens,hb9,hb10]
 cases h
 simp only [seval,FMLLexerTokens,hb9,hb10]
 refine .region fun e h=>?_
 simp only [seval,EMLLexerTokens,hb9,hb10]
 cases h
 simp only [seval,FMLLexerTokens,hb9,hb10]
 refine .region fun e h=>?_
 simp only [seval,EMLLexerTokens,hb9]
 cases h
 simp only [seval,FMLLexerTokens,hb9]
 intro v2
 refine Mir.toK (.ret fun e h=>?_)
 cases h
 simp only [seval,FMLLexerTokens,Tryz.results3]
theorem opn_9 : Opn Tryz.prog 9 eStr inStr := Opn.str Tryz.underlying9
end Go.Proofs.YtpdjgamdnjfmkaaGreatDoor
