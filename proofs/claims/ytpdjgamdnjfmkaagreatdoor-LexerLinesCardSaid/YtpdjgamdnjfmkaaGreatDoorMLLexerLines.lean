import Derived.Test.YtpdjgamdnjfmkaaGreatDoorGx
import Derived.Test.YtpdjgamdnjfmkaaGreatDoorTy
import Derived.Test.YtpdjgamdnjfmkaaGreatDoorGo
import Derived.Test.YtpdjgamdnjfmkaaGreatDoorMI
import Derived.Test.YtpdjgamdnjfmkaaGreatDoorMQ
import Derived.Test.YtpdjgamdnjfmkaaGreatDoorMB
import Derived.Test.YtpdjgamdnjfmkaaGreatDoorMT
import Derived.Test.YtpdjgamdnjfmkaaGreatDoorMX
import Derived.Test.YtpdjgamdnjfmkaaGreatDoorMK
namespace Go.Proofs.YtpdjgamdnjfmkaaGreatDoor
open Go.RowKit
open Nat renaming reduceAdd → nA, reduceSub → nS, reduceMul → nM, reduceEqDiff → nE, reduceLeDiff → nL, reduceLT → nT, reduceBEq → nB
open Int renaming reduceLT → iT, reduceToNat → iN, reduceEq → iE
set_option linter.unusedVariables false
set_option linter.unusedSimpArgs false
set_option maxRecDepth 100000
set_option maxHeartbeats 8000000
theorem EMLLexerLines : type_of% (And.intro @SE <| @ENMK) := And.intro @SE <| @ENMK
theorem FMLLexerLines : type_of% (And.intro @SF <| @ENMK) := And.intro @SF <| @ENMK
def l21_LexerLines (a0 : (List UInt8)) : Option Bool := bindO (bindO (l21_awake ) fun (y1 : Bool) => if y1 = true then some (decide ((a0.length : Int) > 600)) else some true) fun (v1 : Bool) => if v1 = true then bindO (l21_awake ) fun (y2 : Bool) => some y2 else bindO (lx_Lines a0) fun (y3 : (List LexerLine) × Int × Int) => bindO (r21_Lines a0) fun (y4 : (List R21Line) × Int × Int) => if ((y3.2.2 != y4.2.2) || ((y3.2.1 != y4.2.1) || ((y3.1.length : Int) != (y4.1.length : Int)))) = true then some false else bindX (guardO (okIdx y3.1) ( rangeX (fun (i1 : Nat) (e1 : LexerLine) (v2 : Unit) => bindO (bindO (gt y4.1 (i1 : Int)) fun (e2 : R21Line) => if (e1.Number != e2.Number) = true then some true else bindO (l21_own e1.Tokens) fun (y5 : (List R21Token)) => bindO (r21_Same y5 e2.Tokens) fun (y6 : Bool) => some (!y6)) fun (v3 : Bool) => if v3 = true then some (.ret (.ret false)) else some (.go ())) (fun (v2 : Unit) => some (.go ())) y3.1 0 ())) fun (v4 : Unit) => some true
theorem l21_LexerLines_spec {a0 : (List UInt8)} {y : Bool} (h : l21_LexerLines a0 = some y) : Spec gP 4 [.d (.str a0)] (.d (.bool y)) := by
 refine spec_mir Tryz.func4 rfl (by kernel_rfl) (by kernel_rfl) (fun y : Bool => .d (.bool y)) ?_ h
 unfold l21_LexerLines
 simp only [List.replicate, List.length, nS, nA, Tryz.ntmps4, SV]
 refine .sR fun e h=>?_
 simp only [seval,EMLLexerLines]
 refine mU e (.seqK (.seqK (Mir.joinO (fun v1 : Bool=>([.d (.str a0),U,U,U,U,U,U,U,U,U,U,U,U,U,U,U,.d (.bool v1)] ++ us 60)) (fun v1=>⟨[],[]⟩) (fun _=>rfl) ?_ ?_))) h
 refine .bind fun y1 hy1=>.ite (fun hb2=>?_) (fun hb2=>?_)
 refine .region fun e h=>?_
 simp only [seval,EMLLexerLines,hb2]
 refine SpecS.by (l21_awake_spec hy1) (rfl) ?_
 simp only [seval,EMLLexerLines,und_9,hb2]
 cases h
 simp only [seval,FMLLexerLines,hb2]
 refine .region fun e h=>?_
 simp only [seval,EMLLexerLines,hb2]
 refine SpecS.by (l21_awake_spec hy1) (rfl) ?_
 simp only [seval,EMLLexerLines,hb2]
 cases h
 simp only [seval,FMLLexerLines,hb2]
 intro v1
 refine Mir.toK (.cond rfl (fun hb5=>?_) (fun hb5=>?_))
 refine .seqK (.bind fun y2 hy6=>.region fun e h=>?_)
 simp only [seval,EMLLexerLines]
 refine SpecS.by (l21_awake_spec hy6) (rfl) ?_
 simp only [seval,EMLLexerLines]
 refine mU e (.ret fun e h=>?_) h
 cases h
 simp only [seval,FMLLexerLines,Tryz.results4]
 refine .skip (Mir.toK (.seqK (.bind fun y3 hy7=>.region fun e h=>?_)))
 simp only [seval,EMLLexerLines]
 refine SpecS.by (lx_Lines_spec hy7) (by simp only [seval,FMLLexerLines]) ?_
 simp only [seval,EMLLexerLines]
 refine mU e (.seqK (.bind fun y4 hy8=>.region fun e h=>?_)) h
 simp only [seval,EMLLexerLines]
 refine SpecS.by (r21_Lines_spec hy8) (by simp only [seval,FMLLexerLines]) ?_
 simp only [seval,EMLLexerLines]
 refine mU e (.seqK (.seqK (.joinV ([U,U,U,.d (.list (List.map encLexerLine y3.1)),U,U,.d (.list (List.map encR21Line y4.1)),U,U,U,U,U,U,U,U,U,U,U,U,U,U,U,U,U,U,U,U,U,U,U,U,U,U,U,U,U,U,U,U,U,U,U,U,U,.d (.bool ((y3.2.2 != y4.2.2) || ((y3.2.1 != y4.2.1) || ((y3.1.length : Int) != (y4.1.length : Int)))))] ++ us 32) ⟨[],[]⟩ rfl ?_ ?_))) h
 refine SWs.region ?_
 rcases Bool.eq_false_or_eq_true (y3.2.2 != y4.2.2) with hb9 | hb9
 simp only [seval,EMLLexerLines,SL,PB,hb9]
 rcases Bool.eq_false_or_eq_true (y3.2.1 != y4.2.1) with hb10 | hb10
 simp only [seval,EMLLexerLines,SL,PB,hb9,hb10]
 simp only [seval,EMLLexerLines,SL,PB,und_33,und_36,hb9,hb10]
 refine Mir.toK (.cond rfl (fun hb12=>?_) (fun hb12=>?_))
 refine .sR fun e h=>?_
 simp only [seval,EMLLexerLines]
 refine mU e (.ret fun e h=>?_) h
 cases h
 simp only [seval,FMLLexerLines,Tryz.results4]
 refine .skip (Mir.toK (.seqK (.sR fun e h=>?_)))
 simp only [seval,EMLLexerLines,und_33]
 refine mU e (Mir.join (fun v4 : Unit=>(us 77)) (fun v4=>⟨[],[]⟩) (fun _=>rfl) ?_ ?_) h
 refine .block (.guard fun q1=>Mir.range (fun (i1 : Nat) (v2 : Unit)=>([U,U,U,.d (.list (List.map encLexerLine y3.1)),U,U,.d (.list (List.map encR21Line y4.1)),U,U,U,U,U,U,U,U,U,U,U,U,U,U,U,U,U,U,U,U,U,U,U,U,U,U,U,U,U,U,U,U,U,U,U,U,U,U,U,.d (.int .i64 (y3.1.length : Int)),.d (.int .i64 (i1 : Int))] ++ us 29)) (fun i1 v2=>⟨[],[]⟩) q1 (fun _ _=>rfl) (by simp only [seval,FMLLexerLines,zNI]) (by simp only [seval,FMLLexerLines,zNI]) ?_ ?_)
 intro i1 e1 v2 q2
 refine .sR fun e h=>?_
 simp only [seval,EMLLexerLines,q2]
 refine mU e (.seqK (.condT rfl (.skip (Mir.toK (.seqK (.block (.sR fun e h=>?_))))))) h
 simp only [seval,EMLLexerLines]
 refine mU e (.seqK (Mir.joinO (fun v3 : Bool=>[U,U,U,.d (.list (List.map encLexerLine y3.1)),U,U,.d (.list (List.map encR21Line y4.1)),U,U,U,U,U,U,U,U,U,U,U,U,U,U,U,U,U,U,U,U,U,U,U,U,U,U,U,U,U,U,U,U,U,U,U,U,U,U,U,.d (.int .i64 (y3.1.length : Int)),.d (.int .i64 (i1 : Int)),U,U,U,U,U,U,U,U,U,U,U,U,U,U,U,U,U,U,U,U,U,U,U,U,U,U,U,.d (.bool v3),U]) (fun v3=>⟨[],[]⟩) (fun _=>rfl) ?_ ?_)) h
 refine .bind fun e2 q3=>?_
 replace q3 := gt_ok q3
 simp only [Int.toNat_natCast] at q3
 refine .ite (fun h1=>?_) (fun h1=>?_)
 refine .regionD [] (by kernel_rfl) fun e h=>?_
 simp only [seval,EMLLexerLines,SB,und_33,sz_40,q2,Int.toNat_natCast,fld_40_0,sz_3,ag_3,und_36,sz_42,q3,fld_42_0,h1]
 cases h
 simp only [seval,FMLLexerLines,h1]
 refine .bind fun y5 h2=>.bind fun y6 h3=>.regionD [] (by kernel_rfl) fun e h=>?_
 simp only [seval,EMLLexerLines,SB,und_33,sz_40,q2,Int.toNat_natCast,fld_40_0,sz_3,ag_3,und_36,sz_42,q3,fld_42_0,fld_40_1,sz_23,ag_23,h1]
 refine Spec.by (l21_own_spec h2) (by simp only [seval,FMLLexerLines,h1]) ?_
 simp only [seval,EMLLexerLines,SB,und_36,sz_42,q3,Int.toNat_natCast,fld_42_1,sz_27,ag_27,h1]
 refine Spec.by (r21_Same_spec h3) (by simp only [seval,FMLLexerLines,h1]) ?_
 simp only [seval,EMLLexerLines,SB,h1]
 cases h
 simp only [seval,FMLLexerLines,h1]
 intro v3
 refine Mir.toK (.cond rfl (fun h4=>?_) (fun h4=>?_))
 refine .sR fun e h=>?_
 simp only [seval,EMLLexerLines]
 refine mU e (.ret fun e h=>?_) h
 cases h
 simp only [seval,FMLLexerLines,Tryz.results4]
 refine .skip (Mir.toB (Mir.toK (.region fun e h=>?_)))
 simp only [seval,EMLLexerLines]
 cases h
 simp only [seval,FMLLexerLines,Tryz.results4,q2]
 intro v2 q4
 refine .sR fun e h=>?_
 simp only [seval,EMLLexerLines,q4]
 refine mU e (.seqK (.condF rfl (.exit fun e h=>?_))) h
 cases h
 simp only [seval,FMLLexerLines,Tryz.results4]
 intro v4
 refine Mir.toK (.sR fun e h=>?_)
 simp only [seval,EMLLexerLines]
 refine mU e (.ret fun e h=>?_) h
 cases h
 simp only [seval,FMLLexerLines,Tryz.results4]
theorem opn_9 : Opn Tryz.prog 9 eStr inStr := Opn.str Tryz.underlying9
end Go.Proofs.YtpdjgamdnjfmkaaGreatDoor
