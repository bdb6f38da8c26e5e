import Derived.Test.YtpdjgamdnjfmkaaDoorGx
import Derived.Test.YtpdjgamdnjfmkaaDoorTy
import Derived.Test.YtpdjgamdnjfmkaaDoorGo
import Derived.Test.YtpdjgamdnjfmkaaDoorMI
import Derived.Test.YtpdjgamdnjfmkaaDoorMQ
import Derived.Test.YtpdjgamdnjfmkaaDoorMB
import Derived.Test.YtpdjgamdnjfmkaaDoorMT
import Derived.Test.YtpdjgamdnjfmkaaDoorMX
import Derived.Test.YtpdjgamdnjfmkaaDoorMK
namespace Go.Proofs.YtpdjgamdnjfmkaaDoor
open Go.RowKit
open Nat renaming reduceAdd → nA, reduceSub → nS, reduceMul → nM, reduceEqDiff → nE, reduceLeDiff → nL, reduceLT → nT, reduceBEq → nB
open Int renaming reduceLT → iT, reduceToNat → iN, reduceEq → iE
set_option linter.unusedVariables false
set_option linter.unusedSimpArgs false
set_option maxRecDepth 100000
set_option maxHeartbeats 8000000
theorem EMLLexerJoined : type_of% (And.intro @SE <| @ENMK) := And.intro @SE <| @ENMK
theorem FMLLexerJoined : type_of% (And.intro @SF <| @ENMK) := And.intro @SF <| @ENMK
def l21_LexerJoined (a0 : (List UInt8)) : Option Bool := bindO (bindO (l21_awake ) fun (y1 : Bool) => if y1 = true then some (decide ((a0.length : Int) > 300)) else some true) fun (v1 : Bool) => if v1 = true then bindO (l21_awake ) fun (y2 : Bool) => some y2 else bindO (lx_Tokens a0) fun (y3 : (List LexerToken) × Int × Int) => if (y3.2.2 != 0) = true then some true else bindO (guardO (okIdx y3.1) ( rangeX (fun (i1 : Nat) (e1 : LexerToken) (v2 : (List UInt8)) => bindO (if (decide ((i1 : Int) > 0)) = true then guardO (okStr v2 [32]) ( some (v2 ++ [32])) else some v2) fun (v3 : (List UInt8)) => guardO (okStr v3 e1.Text) ( some (.go (v3 ++ e1.Text)))) (fun (v2 : (List UInt8)) => some v2) y3.1 0 [])) fun (v4 : (List UInt8)) => bindO (lx_Tokens v4) fun (y4 : (List LexerToken) × Int × Int) => if ((y4.2.2 != 0) || ((y3.1.length : Int) != (y4.1.length : Int))) = true then some false else bindX (guardO (okIdx y3.1) ( rangeX (fun (i2 : Nat) (e2 : LexerToken) (v5 : Unit) => bindO (bindO (gt y4.1 (i2 : Int)) fun (e3 : LexerToken) => if (e2.Kind != e3.Kind) = true then some true else some (!(e2.Text == e3.Text))) fun (v6 : Bool) => if v6 = true then some (.ret (.ret false)) else some (.go ())) (fun (v5 : Unit) => some (.go ())) y3.1 0 ())) fun (v7 : Unit) => some true
theorem l21_LexerJoined_spec {a0 : (List UInt8)} {y : Bool} (h : l21_LexerJoined a0 = some y) : Spec gP 4 [.d (.str a0)] (.d (.bool y)) := by
 refine spec_mir Tryd.func4 rfl (by kernel_rfl) (by kernel_rfl) (fun y : Bool => .d (.bool y)) ?_ h
 unfold l21_LexerJoined
 simp only [List.replicate, List.length, nS, nA, Tryd.ntmps4, SV]
 refine .sR fun e h=>?_
 simp only [seval,EMLLexerJoined]
 refine mU e (.seqK (.seqK (Mir.joinO (fun v1 : Bool=>([.d (.str a0),U,U,U,U,U,U,U,U,U,U,U,U,U,U,U,U,U,U,.d (.bool v1)] ++ us 70)) (fun v1=>⟨[],[]⟩) (fun _=>rfl) ?_ ?_))) h
 refine .bind fun y1 hy1=>.ite (fun hb2=>?_) (fun hb2=>?_)
 refine .region fun e h=>?_
 simp only [seval,EMLLexerJoined,hb2]
 refine SpecS.by (l21_awake_spec hy1) (rfl) ?_
 simp only [seval,EMLLexerJoined,und_9,hb2]
 cases h
 simp only [seval,FMLLexerJoined,hb2]
 refine .region fun e h=>?_
 simp only [seval,EMLLexerJoined,hb2]
 refine SpecS.by (l21_awake_spec hy1) (rfl) ?_
 simp only [seval,EMLLexerJoined,hb2]
 cases h
 simp only [seval,FMLLexerJoined,hb2]
 intro v1
 refine Mir.toK (.cond rfl (fun hb5=>?_) (fun hb5=>?_))
 refine .seqK (.bind fun y2 hy6=>.region fun e h=>?_)
 simp only [seval,EMLLexerJoined]
 refine SpecS.by (l21_awake_spec hy6) (rfl) ?_
 simp only [seval,EMLLexerJoined]
 refine mU e (.ret fun e h=>?_) h
 cases h
 simp only [seval,FMLLexerJoined,Tryd.results4]
 refine .skip (Mir.toK (.seqK (.bind fun y3 hy7=>.region fun e h=>?_)))
 simp only [seval,EMLLexerJoined]
 refine SpecS.by (lx_Tokens_spec hy7) (by simp only [seval,FMLLexerJoined]) ?_
 simp only [seval,EMLLexerJoined]
 refine mU e (.seqK (.sR fun e h=>?_)) h
 simp only [seval,EMLLexerJoined]
 refine mU e (.cond rfl (fun hb9=>?_) (fun hb9=>?_)) h
 refine .sR fun e h=>?_
 simp only [seval,EMLLexerJoined]
 refine mU e (.ret fun e h=>?_) h
 cases h
 simp only [seval,FMLLexerJoined,Tryd.results4]
 refine .skip (Mir.toK (.sR fun e h=>?_))
 simp only [seval,EMLLexerJoined]
 refine mU e (.seqK (.sR fun e h=>?_)) h
 simp only [seval,EMLLexerJoined,und_23]
 refine mU e (Mir.joinO (fun v4 : (List UInt8)=>([U,U,U,.d (.list (List.map encLexerToken y3.1)),U,U,.d (.str v4)] ++ us 83)) (fun v4=>⟨[],[]⟩) (fun _=>rfl) ?_ ?_) h
 refine .block (.guard fun qg93=>Mir.range (fun (i1 : Nat) (v2 : (List UInt8))=>([U,U,U,.d (.list (List.map encLexerToken y3.1)),U,U,.d (.str v2),U,U,U,U,U,U,U,U,U,U,U,U,U,U,U,U,U,U,U,U,U,U,.d (.list (List.map encLexerToken y3.1)),.d (.int .i64 (y3.1.length : Int)),.d (.int .i64 (i1 : Int))] ++ us 58)) (fun i1 v2=>⟨[],[]⟩) qg93 (fun _ _=>rfl) (by simp only [seval,FMLLexerJoined,zNI]) (by simp only [seval,FMLLexerJoined,zNI]) ?_ ?_)
 intro i1 e1 v2 qr91
 refine .sR fun e h=>?_
 simp only [seval,EMLLexerJoined,qr91]
 refine mU e (.seqK (.condT rfl (.skip (Mir.toK (.seqK (.block (.sR fun e h=>?_))))))) h
 simp only [seval,EMLLexerJoined,und_23,sz_28,qr91,Int.toNat_natCast,ag_28,zero_28]
 refine mU e (.seqK (.sR fun e h=>?_)) h
 simp only [seval,EMLLexerJoined]
 refine mU e (Mir.joinO (fun v3 : (List UInt8)=>([U,U,U,.d (.list (List.map encLexerToken y3.1)),U,U,.d (.str v3),U,.ptr 0 0,U,U,U,U,U,U,U,U,U,U,U,U,U,U,U,U,U,U,U,U,.d (.list (List.map encLexerToken y3.1)),.d (.int .i64 (y3.1.length : Int)),.d (.int .i64 (i1 : Int))] ++ us 58)) (fun v3=>⟨[[.d (.int .i64 e1.Kind),.d (.int .i64 e1.Pos),.d (.str e1.Text)]],[]⟩) (fun _=>rfl) ?_ ?_) h
 refine .cond rfl (fun h1=>?_) (fun h1=>?_)
 refine .guard fun q1=>?_
 replace q1 := okStr_ok q1
 try simp only [lm,xNA,xCA,xAN,xLC,xLN,xAC,xAL,nA,Nat.zero_add] at q1
 refine .region fun e h=>?_
 simp only [seval,EMLLexerJoined,q1]
 cases h
 simp only [seval,FMLLexerJoined,Tryd.results4]
 refine .skip fun e h=>?_
 cases h
 simp only [seval,FMLLexerJoined,Tryd.results4]
 intro v3
 refine Mir.toK (.guard fun q2=>?_)
 replace q2 := okStr_ok q2
 refine .region fun e h=>?_
 simp only [seval,EMLLexerJoined,fld_28_2,sz_9,ag_9,q2]
 refine mU e (.region fun e h=>?_) h
 simp only [seval,EMLLexerJoined]
 cases h
 simp only [seval,FMLLexerJoined,Tryd.results4,qr91]
 intro v2 qd92
 refine .sR fun e h=>?_
 simp only [seval,EMLLexerJoined,qd92]
 refine mU e (.seqK (.condF rfl (.exit fun e h=>?_))) h
 cases h
 simp only [seval,FMLLexerJoined,Tryd.results4]
 intro v4
 refine Mir.toK (.seqK (.bind fun y4 h2=>.region fun e h=>?_))
 simp only [seval,EMLLexerJoined]
 refine SpecS.by (lx_Tokens_spec h2) (by simp only [seval,FMLLexerJoined]) ?_
 simp only [seval,EMLLexerJoined]
 refine mU e (.seqK (.seqK (.joinV ([U,U,U,.d (.list (List.map encLexerToken y3.1)),U,U,U,U,U,.d (.list (List.map encLexerToken y4.1)),U,U,U,U,U,U,U,U,U,U,U,U,U,U,U,U,U,U,U,U,U,U,U,U,U,U,U,U,U,U,U,U,U,U,U,U,U,U,U,U,U,U,U,U,U,U,U,U,U,.d (.bool ((y4.2.2 != 0) || ((y3.1.length : Int) != (y4.1.length : Int))))] ++ us 30) ⟨[],[]⟩ rfl ?_ ?_))) h
 refine SWs.region ?_
 rcases Bool.eq_false_or_eq_true (y4.2.2 != 0) with h3 | h3
 simp only [seval,EMLLexerJoined,SL,PB,h3]
 simp only [seval,EMLLexerJoined,SL,PB,und_23,h3]
 refine Mir.toK (.cond rfl (fun h4=>?_) (fun h4=>?_))
 refine .sR fun e h=>?_
 simp only [seval,EMLLexerJoined]
 refine mU e (.ret fun e h=>?_) h
 cases h
 simp only [seval,FMLLexerJoined,Tryd.results4]
 refine .skip (Mir.toK (.seqK (.sR fun e h=>?_)))
 simp only [seval,EMLLexerJoined,und_23]
 refine mU e (Mir.join (fun v7 : Unit=>(us 90)) (fun v7=>⟨[],[]⟩) (fun _=>rfl) ?_ ?_) h
 refine .block (.guard fun q3=>Mir.range (fun (i2 : Nat) (v5 : Unit)=>([U,U,U,.d (.list (List.map encLexerToken y3.1)),U,U,U,U,U,.d (.list (List.map encLexerToken y4.1)),U,U,U,U,U,U,U,U,U,U,U,U,U,U,U,U,U,U,U,U,U,U,U,U,U,U,U,U,U,U,U,U,U,U,U,U,U,U,U,U,U,U,U,U,U,U,U,U,U,U,U,.d (.int .i64 (y3.1.length : Int)),.d (.int .i64 (i2 : Int))] ++ us 27)) (fun i2 v5=>⟨[],[]⟩) q3 (fun _ _=>rfl) (by simp only [seval,FMLLexerJoined,zNI]) (by simp only [seval,FMLLexerJoined,zNI]) ?_ ?_)
 intro i2 e2 v5 q4
 refine .sR fun e h=>?_
 simp only [seval,EMLLexerJoined,q4]
 refine mU e (.seqK (.condT rfl (.skip (Mir.toK (.seqK (.block (.sR fun e h=>?_))))))) h
 simp only [seval,EMLLexerJoined]
 refine mU e (.seqK (Mir.joinO (fun v6 : Bool=>[U,U,U,.d (.list (List.map encLexerToken y3.1)),U,U,U,U,U,.d (.list (List.map encLexerToken y4.1)),U,U,U,U,U,U,U,U,U,U,U,U,U,U,U,U,U,U,U,U,U,U,U,U,U,U,U,U,U,U,U,U,U,U,U,U,U,U,U,U,U,U,U,U,U,U,U,U,U,U,U,.d (.int .i64 (y3.1.length : Int)),.d (.int .i64 (i2 : Int)),U,U,U,U,U,U,U,U,U,U,U,U,U,U,U,U,U,U,U,U,U,U,U,U,U,.d (.bool v6),U]) (fun v6=>⟨[],[]⟩) (fun _=>rfl) ?_ ?_)) h
 refine .bind fun e3 q5=>?_
 replace q5 := gt_ok q5
 simp only [Int.toNat_natCast] at q5
 refine .ite (fun h5=>?_) (fun h5=>?_)
 refine .regionD [] (by kernel_rfl) fun e h=>?_
 simp only [seval,EMLLexerJoined,SB,und_23,sz_28,q4,Int.toNat_natCast,fld_28_0,sz_3,ag_3,q5,h5]
 cases h
 simp only [seval,FMLLexerJoined,h5]
 refine .regionD [] (by kernel_rfl) fun e h=>?_
 simp only [seval,EMLLexerJoined,SB,und_23,sz_28,q4,Int.toNat_natCast,fld_28_0,sz_3,ag_3,q5,fld_28_2,sz_9,ag_9,h5]
 cases h
 simp only [seval,FMLLexerJoined,h5]
 intro v6
 refine Mir.toK (.cond rfl (fun h6=>?_) (fun h6=>?_))
 refine .sR fun e h=>?_
 simp only [seval,EMLLexerJoined]
 refine mU e (.ret fun e h=>?_) h
 cases h
 simp only [seval,FMLLexerJoined,Tryd.results4]
 refine .skip (Mir.toB (Mir.toK (.region fun e h=>?_)))
 simp only [seval,EMLLexerJoined]
 cases h
 simp only [seval,FMLLexerJoined,Tryd.results4,q4]
 intro v5 q6
 refine .sR fun e h=>?_
 simp only [seval,EMLLexerJoined,q6]
 refine mU e (.seqK (.condF rfl (.exit fun e h=>?_))) h
 cases h
 simp only [seval,FMLLexerJoined,Tryd.results4]
 intro v7
 refine Mir.toK (.sR fun e h=>?_)
 simp only [seval,EMLLexerJoined]
 refine mU e (.ret fun e h=>?_) h
 cases h
 simp only [seval,FMLLexerJoined,Tryd.results4]
theorem opn_9 : Opn Tryd.prog 9 eStr inStr := Opn.str Tryd.underlying9
end Go.Proofs.YtpdjgamdnjfmkaaDoor
