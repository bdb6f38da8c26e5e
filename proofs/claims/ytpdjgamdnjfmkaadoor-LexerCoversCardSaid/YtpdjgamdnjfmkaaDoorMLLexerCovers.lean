import Derived.Test.YtpdjgamdnjfmkaaDoorGx
import Derived.Test.YtpdjgamdnjfmkaaDoorTy
import Derived.Test.YtpdjgamdnjfmkaaDoorGo
import Derived.Test.YtpdjgamdnjfmkaaDoorMI
import Derived.Test.YtpdjgamdnjfmkaaDoorMQ
import Derived.Test.YtpdjgamdnjfmkaaDoorMB
import Derived.Test.YtpdjgamdnjfmkaaDoorMT
import Derived.Test.YtpdjgamdnjfmkaaDoorMX
import Derived.Test.YtpdjgamdnjfmkaaDoorMK
namespace Go.Proofs.YtpdjgamdnjfmkaaDoor
open Go.RowKit
open Nat renaming reduceAdd → nA, reduceSub → nS, reduceMul → nM, reduceEqDiff → nE, reduceLeDiff → nL, reduceLT → nT, reduceBEq → nB
open Int renaming reduceLT → iT, reduceToNat → iN, reduceEq → iE
set_option linter.unusedVariables false
set_option linter.unusedSimpArgs false
set_option maxRecDepth 100000
set_option maxHeartbeats 8000000
theorem EMLLexerCovers : type_of% (And.intro @SE <| @ENMK) := And.intro @SE <| @ENMK
theorem FMLLexerCovers : type_of% (And.intro @SF <| @ENMK) := And.intro @SF <| @ENMK
def l21_LexerCovers (a0 : (List UInt8)) : Option Bool := bindO (bindO (l21_awake ) fun (y1 : Bool) => if y1 = true then some (decide ((a0.length : Int) > 300)) else some true) fun (v1 : Bool) => if v1 = true then bindO (l21_awake ) fun (y2 : Bool) => some y2 else bindO (lx_Tokens a0) fun (y3 : (List LexerToken) × Int × Int) => if (y3.2.2 != 0) = true then some ((y3.1.length : Int) == 0) else bindX (guardO (okIdx y3.1) ( rangeX (fun (i1 : Nat) (e1 : LexerToken) (v2 : Int) => bindX (bindO (if (decide (e1.Pos < v2)) = true then some true else if (decide (e1.Pos > (IntKind.i64.wrap ((a0.length : Int) - (e1.Text.length : Int))))) = true then some true else if ((e1.Text.length : Int) == 0) = true then some true else bindO (cutL a0 e1.Pos (IntKind.i64.wrap (e1.Pos + (e1.Text.length : Int)))) fun (s1 : (List UInt8)) => some (!(s1 == e1.Text))) fun (v3 : Bool) => if v3 = true then some (.ret (.ret (.ret false))) else bindX (loopX (fun (v4 : Int) => if (decide (v4 < e1.Pos)) = true then bindO (gt a0 v4) fun (c1 : UInt8) => if ((c1.toNat : Int) != 32) = true then some (.ret (.ret (.ret (.ret (.ret false))))) else some (.go (IntKind.i64.wrap (v4 + 1))) else some (.ret (.go ()))) fuel v2) fun (v5 : Unit) => some (.go ())) fun (v6 : Unit) => some (.go (IntKind.i64.wrap (e1.Pos + (e1.Text.length : Int))))) (fun (v2 : Int) => some (.go v2)) y3.1 0 0)) fun (v7 : Int) => bindX (loopX (fun (v8 : Int) => bindO (if (decide (v8 < (a0.length : Int))) = true then bindO (gt a0 v8) fun (c2 : UInt8) => some ((c2.toNat : Int) != 35) else some false) fun (v9 : Bool) => if v9 = true then bindO (gt a0 v8) fun (c3 : UInt8) => if ((c3.toNat : Int) != 32) = true then some (.ret (.ret false)) else some (.go (IntKind.i64.wrap (v8 + 1))) else some (.ret (.go ()))) fuel v7) fun (v10 : Unit) => some true
theorem l21_LexerCovers_spec {a0 : (List UInt8)} {y : Bool} (h : l21_LexerCovers a0 = some y) : Spec gP 3 [.d (.str a0)] (.d (.bool y)) := by
 refine spec_mir Tryd.func3 rfl (by kernel_rfl) (by kernel_rfl) (fun y : Bool => .d (.bool y)) ?_ h
 unfold l21_LexerCovers
 simp only [List.replicate, List.length, nS, nA, Tryd.ntmps3, SV]
 refine .sR fun e h=>?_
 simp only [seval,EMLLexerCovers]
 refine mU e (.seqK (.seqK (Mir.joinO (fun v1 : Bool=>([.d (.str a0),U,U,U,U,U,U,U,U,U,U,U,U,U,U,.d (.bool v1)] ++ us 87)) (fun v1=>⟨[],[]⟩) (fun _=>rfl) ?_ ?_))) h
 refine .bind fun y1 hy1=>.ite (fun hb2=>?_) (fun hb2=>?_)
 refine .region fun e h=>?_
 simp only [seval,EMLLexerCovers,hb2]
 refine SpecS.by (l21_awake_spec hy1) (rfl) ?_
 simp only [seval,EMLLexerCovers,und_9,hb2]
 cases h
 simp only [seval,FMLLexerCovers,hb2]
 refine .region fun e h=>?_
 simp only [seval,EMLLexerCovers,hb2]
 refine SpecS.by (l21_awake_spec hy1) (rfl) ?_
 simp only [seval,EMLLexerCovers,hb2]
 cases h
 simp only [seval,FMLLexerCovers,hb2]
 intro v1
 refine Mir.toK (.cond rfl (fun hb5=>?_) (fun hb5=>?_))
 refine .seqK (.bind fun y2 hy6=>.region fun e h=>?_)
 simp only [seval,EMLLexerCovers]
 refine SpecS.by (l21_awake_spec hy6) (rfl) ?_
 simp only [seval,EMLLexerCovers]
 refine mU e (.ret fun e h=>?_) h
 cases h
 simp only [seval,FMLLexerCovers,Tryd.results3]
 refine .skip (Mir.toK (.seqK (.bind fun y3 hy7=>.region fun e h=>?_)))
 simp only [seval,EMLLexerCovers]
 refine SpecS.by (lx_Tokens_spec hy7) (by simp only [seval,FMLLexerCovers]) ?_
 simp only [seval,EMLLexerCovers]
 refine mU e (.seqK (.sR fun e h=>?_)) h
 simp only [seval,EMLLexerCovers]
 refine mU e (.cond rfl (fun hb9=>?_) (fun hb9=>?_)) h
 refine .sR fun e h=>?_
 simp only [seval,EMLLexerCovers,und_23]
 refine mU e (.ret fun e h=>?_) h
 cases h
 simp only [seval,FMLLexerCovers,Tryd.results3]
 refine .skip (Mir.toK (.sR fun e h=>?_))
 simp only [seval,EMLLexerCovers]
 refine mU e (.seqK (.sR fun e h=>?_)) h
 simp only [seval,EMLLexerCovers,und_23]
 refine mU e (Mir.join (fun v7 : Int=>([.d (.str a0),U,U,U,U,U,.d (.int .i64 v7)] ++ us 96)) (fun v7=>⟨[],[]⟩) (fun _=>rfl) ?_ ?_) h
 refine .block (.guard fun q1=>Mir.range (fun (i1 : Nat) (v2 : Int)=>([.d (.str a0),U,U,U,U,U,.d (.int .i64 v2),U,U,U,U,U,U,U,U,U,U,U,U,U,U,U,U,U,U,U,U,U,.d (.list (List.map encLexerToken y3.1)),.d (.int .i64 (y3.1.length : Int)),.d (.int .i64 (i1 : Int))] ++ us 72)) (fun i1 v2=>⟨[],[]⟩) q1 (fun _ _=>rfl) (by simp only [seval,FMLLexerCovers,zNI]) (by simp only [seval,FMLLexerCovers,zNI]) ?_ ?_)
 intro i1 e1 v2 q2
 refine .sR fun e h=>?_
 simp only [seval,EMLLexerCovers,q2]
 refine mU e (.seqK (.condT rfl (.skip (Mir.toK (.seqK (Mir.join (fun v6 : Unit=>([.d (.str a0),U,U,U,U,U,.d (.int .i64 (IntKind.i64.wrap (e1.Pos + (e1.Text.length : Int)))),U,U,U,U,U,U,U,U,U,U,U,U,U,U,U,U,U,U,U,U,U,.d (.list (List.map encLexerToken y3.1)),.d (.int .i64 (y3.1.length : Int)),.d (.int .i64 (i1 : Int))] ++ us 72)) (fun v6=>⟨[],[]⟩) (fun _=>rfl) ?_ ?_)))))) h
 refine .block (.sR fun e h=>?_)
 simp only [seval,EMLLexerCovers,und_23,sz_28,q2,Int.toNat_natCast,ag_28,zero_28]
 refine mU e (.seqK (.seqK (Mir.joinO (fun v3 : Bool=>([.d (.str a0),U,U,U,U,U,.d (.int .i64 v2),U,.ptr 0 0,U,U,U,U,U,U,U,U,U,U,U,U,U,U,U,U,U,U,U,.d (.list (List.map encLexerToken y3.1)),.d (.int .i64 (y3.1.length : Int)),.d (.int .i64 (i1 : Int)),U,U,U,U,U,U,U,U,U,U,U,U,U,U,U,U,U,U,U,U,U,U,U,U,U,U,U,U,U,U,U,U,U,U,U,U,U,U,.d (.bool v3)] ++ us 33)) (fun v3=>⟨[[.d (.int .i64 e1.Kind),.d (.int .i64 e1.Pos),.d (.str e1.Text)]],[]⟩) (fun _=>rfl) ?_ ?_))) h
 refine .ite (fun h1=>?_) (fun h1=>?_)
 refine .regionD [] (by kernel_rfl) fun e h=>?_
 simp only [seval,EMLLexerCovers,SB,fld_28_1,sz_3,ag_3,h1]
 cases h
 simp only [seval,FMLLexerCovers,h1]
 refine .ite (fun h2=>?_) (fun h2=>?_)
 refine .regionD [] (by kernel_rfl) fun e h=>?_
 simp only [seval,EMLLexerCovers,SB,fld_28_1,sz_3,ag_3,und_9,fld_28_2,sz_9,ag_9,h1,h2]
 cases h
 simp only [seval,FMLLexerCovers,h1,h2]
 refine .ite (fun h3=>?_) (fun h3=>?_)
 refine .regionD [] (by kernel_rfl) fun e h=>?_
 simp only [seval,EMLLexerCovers,SB,fld_28_1,sz_3,ag_3,und_9,fld_28_2,sz_9,ag_9,h1,h2,h3]
 cases h
 simp only [seval,FMLLexerCovers,h1,h2,h3]
 refine .bind fun s1 q3=>?_
 replace q3 := cutL_ok q3
 refine .regionD [] (by kernel_rfl) fun e h=>?_
 simp only [seval,EMLLexerCovers,SB,fld_28_1,sz_3,ag_3,und_9,fld_28_2,sz_9,ag_9,q3,Nat.le_refl,and_true,true_and,dm,tm,h1,h2,h3]
 cases h
 simp only [seval,FMLLexerCovers,h1,h2,h3]
 intro v3
 refine Mir.toK (.cond rfl (fun h4=>?_) (fun h4=>?_))
 refine .sR fun e h=>?_
 simp only [seval,EMLLexerCovers]
 refine mU e (.ret fun e h=>?_) h
 cases h
 simp only [seval,FMLLexerCovers,Tryd.results3]
 refine .skip (Mir.toK (.seqK (Mir.join (fun v5 : Unit=>([.d (.str a0),U,U,U,U,U,U,U,.ptr 0 0,U,U,U,U,U,U,U,U,U,U,U,U,U,U,U,U,U,U,U,.d (.list (List.map encLexerToken y3.1)),.d (.int .i64 (y3.1.length : Int)),.d (.int .i64 (i1 : Int))] ++ us 72)) (fun v5=>⟨[[.d (.int .i64 e1.Kind),.d (.int .i64 e1.Pos),.d (.str e1.Text)]],[]⟩) (fun _=>rfl) ?_ ?_)))
 refine .block (Mir.loop (fun v4 : Int=>([.d (.str a0),U,U,U,U,U,.d (.int .i64 v4),U,.ptr 0 0,U,U,U,U,U,U,U,U,U,U,U,U,U,U,U,U,U,U,U,.d (.list (List.map encLexerToken y3.1)),.d (.int .i64 (y3.1.length : Int)),.d (.int .i64 (i1 : Int))] ++ us 72)) (fun v4=>⟨[[.d (.int .i64 e1.Kind),.d (.int .i64 e1.Pos),.d (.str e1.Text)]],[]⟩) (fun _=>rfl) (by simp only [seval,FMLLexerCovers]) (by simp only [seval,FMLLexerCovers]) fun v4=>.seqK (.sR fun e h=>?_))
 simp only [seval,EMLLexerCovers,fld_28_1,sz_3,ag_3]
 refine mU e (.cond rfl (fun h5=>?_) (fun h5=>?_)) h
 refine .skip (Mir.toK (.seqK (.block (.seqK (.bind fun c1 q4=>?_)))))
 replace q4 := gt_ok q4
 refine .region fun e h=>?_
 simp only [seval,EMLLexerCovers,und_9,q4]
 refine mU e (.cond rfl (fun h6=>?_) (fun h6=>?_)) h
 refine .sR fun e h=>?_
 simp only [seval,EMLLexerCovers]
 refine mU e (.ret fun e h=>?_) h
 cases h
 simp only [seval,FMLLexerCovers,Tryd.results3]
 refine .skip (Mir.toB (Mir.toK (.region fun e h=>?_)))
 simp only [seval,EMLLexerCovers]
 cases h
 simp only [seval,FMLLexerCovers,Tryd.results3]
 refine .exit fun e h=>?_
 cases h
 simp only [seval,FMLLexerCovers,Tryd.results3]
 intro v5
 refine Mir.toK (.region fun e h=>?_)
 simp only [seval,EMLLexerCovers,fld_28_1,sz_3,ag_3,fld_28_2,sz_9,ag_9,und_9]
 cases h
 simp only [seval,FMLLexerCovers,Tryd.results3]
 intro v6
 refine Mir.toK (.region fun e h=>?_)
 simp only [seval,EMLLexerCovers]
 cases h
 simp only [seval,FMLLexerCovers,Tryd.results3,q2]
 intro v2 q5
 refine .sR fun e h=>?_
 simp only [seval,EMLLexerCovers,q5]
 refine mU e (.seqK (.condF rfl (.exit fun e h=>?_))) h
 cases h
 simp only [seval,FMLLexerCovers,Tryd.results3]
 intro v7
 refine Mir.toK (.seqK (Mir.join (fun v10 : Unit=>(us 103)) (fun v10=>⟨[],[]⟩) (fun _=>rfl) ?_ ?_))
 refine .block (Mir.loop (fun v8 : Int=>([.d (.str a0),U,U,U,U,U,.d (.int .i64 v8)] ++ us 96)) (fun v8=>⟨[],[]⟩) (fun _=>rfl) (by simp only [seval,FMLLexerCovers]) (by simp only [seval,FMLLexerCovers]) fun v8=>.seqK (.seqK (Mir.joinO (fun v9 : Bool=>([.d (.str a0),U,U,U,U,U,.d (.int .i64 v8),U,U,U,U,U,U,U,U,U,U,U,U,U,U,U,U,U,U,U,U,U,U,U,U,U,U,U,U,U,U,U,U,U,U,U,U,U,U,U,U,U,U,U,U,U,U,U,U,U,U,U,U,U,U,U,U,U,U,U,U,U,U,U,U,U,U,U,U,U,U,U,U,U,U,U,U,U,U,U,U,U,U,U,U,U,U,U,U,U,.d (.bool v9)] ++ us 6)) (fun v9=>⟨[],[]⟩) (fun _=>rfl) ?_ ?_)))
 refine .ite (fun h7=>?_) (fun h7=>?_)
 refine .bind fun c2 q6=>?_
 replace q6 := gt_ok q6
 refine .region fun e h=>?_
 simp only [seval,EMLLexerCovers,und_9,q6,h7]
 cases h
 simp only [seval,FMLLexerCovers,h7]
 refine .region fun e h=>?_
 simp only [seval,EMLLexerCovers,und_9,h7]
 cases h
 simp only [seval,FMLLexerCovers,h7]
 intro v9
 refine Mir.toK (.cond rfl (fun h8=>?_) (fun h8=>?_))
 refine .skip (Mir.toK (.seqK (.block (.seqK (.bind fun c3 q7=>?_)))))
 replace q7 := gt_ok q7
 refine .region fun e h=>?_
 simp only [seval,EMLLexerCovers,und_9,q7]
 refine mU e (.cond rfl (fun h9=>?_) (fun h9=>?_)) h
 refine .sR fun e h=>?_
 simp only [seval,EMLLexerCovers]
 refine mU e (.ret fun e h=>?_) h
 cases h
 simp only [seval,FMLLexerCovers,Tryd.results3]
 refine .skip (Mir.toB (Mir.toK (.region fun e h=>?_)))
 simp only [seval,EMLLexerCovers]
 cases h
 simp only [seval,FMLLexerCovers,Tryd.results3]
 refine .exit fun e h=>?_
 cases h
 simp only [seval,FMLLexerCovers,Tryd.results3]
 intro v10
 refine Mir.toK (.sR fun e h=>?_)
 simp only [seval,EMLLexerCovers]
 refine mU e (.ret fun e h=>?_) h
 cases h
 simp only [seval,FMLLexerCovers,Tryd.results3]
theorem opn_9 : Opn Tryd.prog 9 eStr inStr := Opn.str Tryd.underlying9
end Go.Proofs.YtpdjgamdnjfmkaaDoor
