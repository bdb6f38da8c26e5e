import Derived.Test.YtjgngikiglhleaaGreatDoorGx
import Derived.Test.YtjgngikiglhleaaGreatDoorTy
import Derived.Test.YtjgngikiglhleaaGreatDoorCg
import Derived.Test.YtjgngikiglhleaaGreatDoorGz
import Derived.Test.YtjgngikiglhleaaGreatDoorSzz
import Derived.Test.YtjgngikiglhleaaGreatDoorSzk
import Derived.Test.YtjgngikiglhleaaGreatDoorMB
import Derived.Test.YtjgngikiglhleaaGreatDoorMV
import Derived.Test.YtjgngikiglhleaaGreatDoorMW
namespace Go.Proofs.YtjgngikiglhleaaGreatDoor
open Go.RowKit
open Nat renaming reduceAdd → nA,reduceSub → nS,reduceMul → nM,reduceEqDiff → nE,reduceLeDiff → nL,reduceLT → nT,reduceBEq → nB
open Int renaming reduceLT → iT,reduceToNat → iN,reduceEq → iE
set_option linter.unusedVariables false
set_option linter.unusedSimpArgs false
set_option maxRecDepth 100000
set_option maxHeartbeats 8000000
theorem EME : type_of% (And.intro @SE <| @ENMB) := And.intro @SE <| @ENMB
theorem FME : type_of% (And.intro @SF <| @ENMB) := And.intro @SF <| @ENMB
def sp_Split_c1 (a0 : ApiBlock) : Option Bool := bindO (sp_has a0 77 30000) fun (y1 : Bool)=>some y1
theorem sp_Split_c1_spec {a0 : ApiBlock} {y : Bool} (h : sp_Split_c1 a0 = some y) : Spec gP 23 [.agg [.d (.bool a0.Skip),.d (.list (List.map encApiWord a0.Words)),.d (.str a0.Comment)]] (.d (.bool y)) := by
 refine spec_mir Tryz.func23 rfl (by kernel_rfl) (by kernel_rfl) (fun y : Bool=>.d (.bool y)) ?_ h
 unfold sp_Split_c1
 simp only [List.replicate,List.length,nS,nA,Tryz.ntmps23,SV]
 refine .sR fun e h=>?_
 simp only [seval,EME]
 refine mU e (.seqK (.bind fun y1 hy1=>.region fun e h=>?_)) h
 simp only [seval,EME,ag_48,sz_48]
 refine SpecS.by (sp_has_spec hy1) (by simp only [seval,FME]) ?_
 simp only [seval,EME]
 refine mU e (.ret fun e h=>?_) h
 cases h
 simp only [seval,FME,Tryz.results23]
def sp_plain (a0 : ApiBlock) : Option Bool := some (((a0.Words.length : Int) == 1) && (!a0.Skip && (a0.Comment == [])))
theorem sp_plain_spec {a0 : ApiBlock} {y : Bool} (h : sp_plain a0 = some y) : Spec gP 28 [.agg [.d (.bool a0.Skip),.d (.list (List.map encApiWord a0.Words)),.d (.str a0.Comment)]] (.d (.bool y)) := by
 refine spec_mir Tryz.func28 rfl (by kernel_rfl) (by kernel_rfl) (fun y : Bool=>.d (.bool y)) ?_ h
 unfold sp_plain
 simp only [List.replicate,List.length,nS,nA,Tryz.ntmps28,SV]
 refine .sR fun e h=>?_
 simp only [seval,EME]
 refine mU e (.seqK (.joinV ([U,U,.d (.bool (((a0.Words.length : Int) == 1) && (!a0.Skip && (a0.Comment == []))))] ++ us 14) ⟨[[.d (.bool a0.Skip),.d (.list (List.map encApiWord a0.Words)),.d (.str a0.Comment)]],[]⟩ rfl ?_ ?_)) h
 refine SWs.region ?_
 rcases Bool.eq_false_or_eq_true ((a0.Words.length : Int) == 1) with hb1 | hb1
 rcases Bool.eq_false_or_eq_true (a0.Skip) with hb2 | hb2
 simp only [seval,EME,SL,PB,fld_48_1,sz_46,ag_46,und_46,fld_48_0,sz_4,ag_4,hb1,hb2]
 simp only [seval,EME,SL,PB,fld_48_1,sz_46,ag_46,und_46,fld_48_0,sz_4,ag_4,fld_48_2,sz_9,ag_9,hb1,hb2]
 simp only [seval,EME,SL,PB,fld_48_1,sz_46,ag_46,und_46,hb1]
 refine Mir.toK (.ret fun e h=>?_)
 cases h
 simp only [seval,FME,Tryz.results28]
def sp_whole (a0 : Int) : Option (Int × Bool) := some (IntKind.i64.wrap (Int.tdiv a0 1000),((Int.tmod a0 1000) == 0) && ((decide ((IntKind.i64.wrap (Int.tdiv a0 1000)) ≥ 1)) && (decide ((IntKind.i64.wrap (Int.tdiv a0 1000)) ≤ 9999))))
theorem sp_whole_spec {a0 : Int} {y : Int × Bool} (h : sp_whole a0 = some y) : Spec gP 53 [.d (.int .i64 a0)] (.tuple [.d (.int .i64 y.1),.d (.bool y.2)]) := by
 refine spec_mir Tryz.func53 rfl (by kernel_rfl) (by kernel_rfl) (fun y : Int × Bool=>.tuple [.d (.int .i64 y.1),.d (.bool y.2)]) ?_ h
 unfold sp_whole
 simp only [List.replicate,List.length,nS,nA,Tryz.ntmps53,SV]
 refine .sR fun e h=>?_
 simp only [seval,EME]
 refine mU e (.sR fun e h=>?_) h
 simp only [seval,EME]
 refine mU e (.seqK (.joinV ([U,U,.d (.int .i64 (IntKind.i64.wrap (Int.tdiv a0 1000))),.d (.bool (((Int.tmod a0 1000) == 0) && ((decide ((IntKind.i64.wrap (Int.tdiv a0 1000)) ≥ 1)) && (decide ((IntKind.i64.wrap (Int.tdiv a0 1000)) ≤ 9999)))))] ++ us 15) ⟨[],[]⟩ rfl ?_ ?_)) h
 refine SWs.region ?_
 rcases Bool.eq_false_or_eq_true ((Int.tmod a0 1000) == 0) with hb1 | hb1
 rcases Bool.eq_false_or_eq_true (decide ((IntKind.i64.wrap (Int.tdiv a0 1000)) ≥ 1)) with hb2 | hb2
 simp only [seval,EME,SL,PB,hb1,hb2]
 simp only [seval,EME,SL,PB,hb1,hb2]
 simp only [seval,EME,SL,PB,hb1]
 refine Mir.toK (.ret fun e h=>?_)
 cases h
 simp only [seval,FME,Tryz.results53]
def sp_beginning (a0 : ApiBlock) : Option (Int × Bool) := bindO (bindO (sp_plain a0) fun (y1 : Bool)=>if y1 = true then bindO (gt a0.Words 0) fun (e1 : ApiWord)=>some (e1.Letter != 79) else some true) fun (v1 : Bool)=>if v1 = true then some (0,false) else bindO (gt a0.Words 0) fun (e2 : ApiWord)=>bindO (sp_whole e2.Value) fun (y2 : Int × Bool)=>some (y2.1,y2.2)
theorem sp_beginning_spec {a0 : ApiBlock} {y : Int × Bool} (h : sp_beginning a0 = some y) : Spec gP 26 [.agg [.d (.bool a0.Skip),.d (.list (List.map encApiWord a0.Words)),.d (.str a0.Comment)]] (.tuple [.d (.int .i64 y.1),.d (.bool y.2)]) := by
 refine spec_mir Tryz.func26 rfl (by kernel_rfl) (by kernel_rfl) (fun y : Int × Bool=>.tuple [.d (.int .i64 y.1),.d (.bool y.2)]) ?_ h
 unfold sp_beginning
 simp only [List.replicate,List.length,nS,nA,Tryz.ntmps26,SV]
 refine .sR fun e h=>?_
 simp only [seval,EME]
 refine mU e (.seqK (.seqK (Mir.joinO (fun v1 : Bool=>([U,.ptr 0 0,U,U,U,U,U,U,U,U,U,U,U,U,.d (.bool v1)] ++ us 8)) (fun v1=>⟨[[.d (.bool a0.Skip),.d (.list (List.map encApiWord a0.Words)),.d (.str a0.Comment)]],[]⟩) (fun _=>rfl) ?_ ?_))) h
 refine .bind fun y1 hy1=>.ite (fun hb2=>?_) (fun hb2=>?_)
 refine .bind fun e1 q3=>?_
 replace q3 := gt_ok q3
 simp only [Int.reduceToNat,Int.reduceLT,Nat.sub_zero,dp0] at q3
 refine .region fun e h=>?_
 simp only [seval,EME,ag_48,sz_48,hb2]
 refine SpecS.by (sp_plain_spec hy1) (by simp only [seval,FME,hb2]) ?_
 simp only [seval,EME,fld_48_1,sz_46,ag_46,und_46,sz_83,q3,fld_83_0,sz_5,ag_5,hb2]
 cases h
 simp only [seval,FME,hb2]
 refine .region fun e h=>?_
 simp only [seval,EME,ag_48,sz_48,hb2]
 refine SpecS.by (sp_plain_spec hy1) (by simp only [seval,FME,hb2]) ?_
 simp only [seval,EME,hb2]
 cases h
 simp only [seval,FME,hb2]
 intro v1
 refine Mir.toK (.cond rfl (fun hb5=>?_) (fun hb5=>?_))
 refine .sR fun e h=>?_
 simp only [seval,EME]
 refine mU e (.ret fun e h=>?_) h
 cases h
 simp only [seval,FME,Tryz.results26]
 refine .skip (Mir.toK (.seqK (.bind fun e2 q6=>?_)))
 replace q6 := gt_ok q6
 simp only [Int.reduceToNat,Int.reduceLT,Nat.sub_zero,dp0] at q6
 refine .bind fun y2 hy7=>.region fun e h=>?_
 simp only [seval,EME,fld_48_1,sz_46,ag_46,und_46,sz_83,q6,fld_83_1,sz_2,ag_2]
 refine SpecS.by (sp_whole_spec hy7) (by simp only [seval,FME]) ?_
 simp only [seval,EME]
 refine mU e (.ret fun e h=>?_) h
 cases h
 simp only [seval,FME,Tryz.results26]
def sp_Split_c2 (a0 : ApiBlock) : Option Bool := bindO (bindO (sp_plain a0) fun (y1 : Bool)=>if y1 = true then bindO (sp_has a0 77 99000) fun (y2 : Bool)=>some y2 else some false) fun (v1 : Bool)=>some v1
theorem sp_Split_c2_spec {a0 : ApiBlock} {y : Bool} (h : sp_Split_c2 a0 = some y) : Spec gP 27 [.agg [.d (.bool a0.Skip),.d (.list (List.map encApiWord a0.Words)),.d (.str a0.Comment)]] (.d (.bool y)) := by
 refine spec_mir Tryz.func27 rfl (by kernel_rfl) (by kernel_rfl) (fun y : Bool=>.d (.bool y)) ?_ h
 unfold sp_Split_c2
 simp only [List.replicate,List.length,nS,nA,Tryz.ntmps27,SV]
 refine .sR fun e h=>?_
 simp only [seval,EME]
 refine mU e (.seqK (Mir.joinO (fun v1 : Bool=>([U,U,.d (.bool v1)] ++ us 6)) (fun v1=>⟨[[.d (.bool a0.Skip),.d (.list (List.map encApiWord a0.Words)),.d (.str a0.Comment)]],[]⟩) (fun _=>rfl) ?_ ?_)) h
 refine .bind fun y1 hy1=>.ite (fun hb2=>?_) (fun hb2=>?_)
 refine .bind fun y2 hy3=>.region fun e h=>?_
 simp only [seval,EME,ag_48,sz_48,hb2]
 refine SpecS.by (sp_plain_spec hy1) (by simp only [seval,FME,hb2]) ?_
 simp only [seval,EME,ag_48,sz_48,hb2]
 refine SpecS.by (sp_has_spec hy3) (by simp only [seval,FME,hb2]) ?_
 simp only [seval,EME,hb2]
 cases h
 simp only [seval,FME,hb2]
 refine .region fun e h=>?_
 simp only [seval,EME,ag_48,sz_48,hb2]
 refine SpecS.by (sp_plain_spec hy1) (by simp only [seval,FME,hb2]) ?_
 simp only [seval,EME,hb2]
 cases h
 simp only [seval,FME,hb2]
 intro v1
 refine Mir.toK (.ret fun e h=>?_)
 cases h
 simp only [seval,FME,Tryz.results27]
def sp_ordered_c1 (a0 : SubprogramSub) : Option Bool := bindO (bindO (bindX (guardO (okIdx a0.Blocks) ( rangeX (fun (i1 : Nat) (e1 : ApiBlock) (v1 : Unit)=>bindO (sp_marked e1) fun (y1 : Bool)=>if y1 = true then some (.ret (.ret (i1 : Int))) else some (.go ())) (fun (v1 : Unit)=>some (.go ())) a0.Blocks 0 ())) fun (v2 : Unit)=>some (-1)) fun (v3 : Int)=>some (decide (v3 ≥ 0))) fun (v4 : Bool)=>some v4
theorem sp_ordered_c1_spec {a0 : SubprogramSub} {y : Bool} (h : sp_ordered_c1 a0 = some y) : Spec gP 57 [.agg [.d (.int .i64 a0.Number),.d (.list (List.map encApiBlock a0.Blocks))]] (.d (.bool y)) := by
 refine spec_mir Tryz.func57 rfl (by kernel_rfl) (by kernel_rfl) (fun y : Bool=>.d (.bool y)) ?_ h
 unfold sp_ordered_c1
 simp only [List.replicate,List.length,nS,nA,Tryz.ntmps57,SV]
 refine .sR fun e h=>?_
 simp only [seval,EME]
 refine mU e (.seqK (.bind fun v4 hv72=>.region fun e h=>?_)) h
 simp only [seval,EME,fld_75_1,sz_31,ag_31]
 refine SpecS.inl Tryz.func54 rfl (by kernel_rfl) (by kernel_rfl) (fun v4 : Bool=>.d (.bool v4)) (fun v4=>⟨[[.d (.int .i64 a0.Number),.d (.list (List.map encApiBlock a0.Blocks))]],[]⟩) hv72 rfl ?_ ?_
 simp only [List.replicate,List.length,nS,nA,Tryz.ntmps54,SV]
 refine .sR fun e h=>?_
 simp only [seval,EME]
 refine mU e (.seqK (.bind fun v3 h1=>.region fun e h=>?_)) h
 simp only [seval,EME]
 refine SpecS.inl Tryz.func22 rfl (by kernel_rfl) (by kernel_rfl) (fun v3 : Int=>.d (.int .i64 v3)) (fun v3=>⟨[[.d (.int .i64 a0.Number),.d (.list (List.map encApiBlock a0.Blocks))]],[]⟩) h1 rfl ?_ ?_
 simp only [List.replicate,List.length,nS,nA,Tryz.ntmps22,SV]
 refine .sR fun e h=>?_
 simp only [seval,EME]
 refine mU e (.seqK (.sR fun e h=>?_)) h
 simp only [seval,EME,und_31]
 refine mU e (Mir.join (fun v2 : Unit=>(us 19)) (fun v2=>⟨[[.d (.int .i64 a0.Number),.d (.list (List.map encApiBlock a0.Blocks))]],[]⟩) (fun _=>rfl) ?_ ?_) h
 refine .block (.guard fun q1=>Mir.range (fun (i1 : Nat) (v1 : Unit)=>([.d (.list (List.map encApiBlock a0.Blocks)),.fn 55 [],U,U,U,U,U,.d (.int .i64 (a0.Blocks.length : Int)),.d (.int .i64 (i1 : Int))] ++ us 10)) (fun i1 v1=>⟨[[.d (.int .i64 a0.Number),.d (.list (List.map encApiBlock a0.Blocks))]],[]⟩) q1 (fun _ _=>rfl) (by simp only [seval,FME,zNI]) (by simp only [seval,FME,zNI]) ?_ ?_)
 intro i1 e1 v1 q2
 refine .sR fun e h=>?_
 simp only [seval,EME,q2]
 refine mU e (.seqK (.condT rfl (.skip (Mir.toK (.seqK (.block (.sR fun e h=>?_))))))) h
 simp only [seval,EME]
 refine mU e (.seqK (.bind fun y1 h2=>.region fun e h=>?_)) h
 simp only [seval,EME,und_31,sz_48,q2,Int.toNat_natCast,ag_48]
 refine SpecS.by (sp_marked_spec h2) (by simp only [seval,FME]) ?_
 simp only [seval,EME]
 refine mU e (.cond rfl (fun h3=>?_) (fun h3=>?_)) h
 refine .sR fun e h=>?_
 simp only [seval,EME]
 refine mU e (.ret fun e h=>?_) h
 cases h
 simp only [seval,FME,Tryz.results22]
 refine .skip (Mir.toB (Mir.toK (.region fun e h=>?_)))
 simp only [seval,EME]
 cases h
 simp only [seval,FME,Tryz.results22,q2]
 intro v1 q3
 refine .sR fun e h=>?_
 simp only [seval,EME,q3]
 refine mU e (.seqK (.condF rfl (.exit fun e h=>?_))) h
 cases h
 simp only [seval,FME,Tryz.results22]
 intro v2
 refine Mir.toK (.sR fun e h=>?_)
 simp only [seval,EME]
 refine mU e (.ret fun e h=>?_) h
 cases h
 simp only [seval,FME,Tryz.results22]
 simp only [seval,EME]
 refine mU e (.ret fun e h=>?_) h
 cases h
 simp only [seval,FME,Tryz.results54]
 simp only [seval,EME]
 refine mU e (.ret fun e h=>?_) h
 cases h
 simp only [seval,FME,Tryz.results57]
def sp_ordered (a0 : SubprogramProgram) : Option Bool := bindO (if (decide ((IntKind.i64.wrap ((a0.Main.length : Int) - 1)) < 0)) = true then some true else bindO (gt a0.Main (IntKind.i64.wrap ((a0.Main.length : Int) - 1))) fun (e1 : ApiBlock)=>bindO (sp_has e1 77 30000) fun (y1 : Bool)=>if y1 = true then bindO (bk_Codes e1 79) fun (y2 : (List Int))=>if (decide ((y2.length : Int) > 0)) = true then some true else bindO (sp_has e1 77 99000) fun (y3 : Bool)=>if y3 = true then some true else bindO (cutT a0.Main (IntKind.i64.wrap ((a0.Main.length : Int) - 1))) fun (s1 : (List ApiBlock))=>bindO (bindO (bindX (guardO (okIdx s1) ( rangeX (fun (i1 : Nat) (e2 : ApiBlock) (v1 : Unit)=>bindO (sp_marked e2) fun (y4 : Bool)=>if y4 = true then some (.ret (.ret (i1 : Int))) else some (.go ())) (fun (v1 : Unit)=>some (.go ())) s1 0 ())) fun (v2 : Unit)=>some (-1)) fun (v3 : Int)=>some (decide (v3 ≥ 0))) fun (v4 : Bool)=>some v4 else some true) fun (v5 : Bool)=>if v5 = true then some false else bindO (bindO (bindX (guardO (okIdx a0.Subs) ( rangeX (fun (i2 : Nat) (e3 : SubprogramSub) (v6 : Unit)=>bindO (sp_ordered_c1 e3) fun (y5 : Bool)=>if y5 = true then some (.ret (.ret (i2 : Int))) else some (.go ())) (fun (v6 : Unit)=>some (.go ())) a0.Subs 0 ())) fun (v7 : Unit)=>some (-1)) fun (v8 : Int)=>some (decide (v8 ≥ 0))) fun (v9 : Bool)=>some (!v9)
theorem sp_ordered_spec {a0 : SubprogramProgram} {y : Bool} (h : sp_ordered a0 = some y) : Spec gP 29 [.agg [.d (.list (List.map encApiBlock a0.Main)),.d (.list (List.map encSubprogramSub a0.Subs))]] (.d (.bool y)) := by
 refine spec_mir Tryz.func29 rfl (by kernel_rfl) (by kernel_rfl) (fun y : Bool=>.d (.bool y)) ?_ h
 unfold sp_ordered
 simp only [List.replicate,List.length,nS,nA,Tryz.ntmps29,SV]
 refine .sR fun e h=>?_
 simp only [seval,EME]
 refine mU e (.sR fun e h=>?_) h
 simp only [seval,EME,fld_38_0,sz_31,ag_31,und_31]
 refine mU e (.seqK (.seqK (Mir.joinO (fun v5 : Bool=>([U,.ptr 0 0,U,U,U,U,U,U,U,U,U,U,U,U,U,U,U,U,U,U,U,U,U,U,U,U,U,U,U,U,U,U,U,U,U,U,U,U,U,U,U,U,U,.d (.bool v5)] ++ us 4)) (fun v5=>⟨[[.d (.list (List.map encApiBlock a0.Main)),.d (.list (List.map encSubprogramSub a0.Subs))]],[]⟩) (fun _=>rfl) ?_ ?_))) h
 refine .ite (fun hb1=>?_) (fun hb1=>?_)
 refine .region fun e h=>?_
 simp only [seval,EME,hb1]
 cases h
 simp only [seval,FME,hb1]
 refine .bind fun e1 q2=>?_
 replace q2 := gt_ok q2
 refine .bind fun y1 hy3=>.ite (fun hb4=>?_) (fun hb4=>?_)
 refine .bind fun y2 hy5=>.ite (fun hb6=>?_) (fun hb6=>?_)
 refine .region fun e h=>?_
 simp only [seval,EME,fld_38_0,sz_31,ag_31,und_31,sz_48,q2,ag_48,hb1,hb4,hb6]
 refine SpecS.by (sp_has_spec hy3) (by simp only [seval,FME,hb1,hb4,hb6]) ?_
 simp only [seval,EME,fld_38_0,sz_31,ag_31,und_31,sz_48,q2,ag_48,hb1,hb4,hb6]
 refine SpecS.by (bk_Codes_spec hy5) (by simp only [seval,FME,hb1,hb4,hb6]) ?_
 simp only [seval,EME,und_93,hb1,hb4,hb6]
 cases h
 simp only [seval,FME,hb1,hb4,hb6]
 refine .bind fun y3 hy7=>.ite (fun hb8=>?_) (fun hb8=>?_)
 refine .region fun e h=>?_
 simp only [seval,EME,fld_38_0,sz_31,ag_31,und_31,sz_48,q2,ag_48,hb1,hb4,hb6,hb8]
 refine SpecS.by (sp_has_spec hy3) (by simp only [seval,FME,hb1,hb4,hb6,hb8]) ?_
 simp only [seval,EME,fld_38_0,sz_31,ag_31,und_31,sz_48,q2,ag_48,hb1,hb4,hb6,hb8]
 refine SpecS.by (bk_Codes_spec hy5) (by simp only [seval,FME,hb1,hb4,hb6,hb8]) ?_
 simp only [seval,EME,und_93,fld_38_0,sz_31,ag_31,und_31,sz_48,q2,ag_48,hb1,hb4,hb6,hb8]
 refine SpecS.by (sp_has_spec hy7) (by simp only [seval,FME,hb1,hb4,hb6,hb8]) ?_
 simp only [seval,EME,hb1,hb4,hb6,hb8]
 cases h
 simp only [seval,FME,hb1,hb4,hb6,hb8]
 refine .bind fun s1 q9=>?_
 replace q9 := cutT_ok q9
 refine .bind fun v4 hv81=>.region fun e h=>?_
 simp only [seval,EME,fld_38_0,sz_31,ag_31,und_31,sz_48,q2,ag_48,hb1,hb4,hb6,hb8]
 refine SpecS.by (sp_has_spec hy3) (by simp only [seval,FME,hb1,hb4,hb6,hb8]) ?_
 simp only [seval,EME,fld_38_0,sz_31,ag_31,und_31,sz_48,q2,ag_48,hb1,hb4,hb6,hb8]
 refine SpecS.by (bk_Codes_spec hy5) (by simp only [seval,FME,hb1,hb4,hb6,hb8]) ?_
 simp only [seval,EME,und_93,fld_38_0,sz_31,ag_31,und_31,sz_48,q2,ag_48,hb1,hb4,hb6,hb8]
 refine SpecS.by (sp_has_spec hy7) (by simp only [seval,FME,hb1,hb4,hb6,hb8]) ?_
 simp only [seval,EME,fld_38_0,sz_31,ag_31,und_31,sz_48,q9,Nat.le_refl,and_true,true_and,dm,tm,al_ApiBlock,hb1,hb4,hb6,hb8]
 refine SpecS.inl Tryz.func54 rfl (by kernel_rfl) (by kernel_rfl) (fun v4 : Bool=>.d (.bool v4)) (fun v4=>⟨[[.d (.list (List.map encApiBlock a0.Main)),.d (.list (List.map encSubprogramSub a0.Subs))]],[]⟩) hv81 rfl ?_ ?_
 simp only [List.replicate,List.length,nS,nA,Tryz.ntmps54,SV]
 refine .sR fun e h=>?_
 simp only [seval,EME]
 refine mU e (.seqK (.bind fun v3 h1=>.region fun e h=>?_)) h
 simp only [seval,EME]
 refine SpecS.inl Tryz.func22 rfl (by kernel_rfl) (by kernel_rfl) (fun v3 : Int=>.d (.int .i64 v3)) (fun v3=>⟨[[.d (.list (List.map encApiBlock a0.Main)),.d (.list (List.map encSubprogramSub a0.Subs))]],[]⟩) h1 rfl ?_ ?_
 simp only [List.replicate,List.length,nS,nA,Tryz.ntmps22,SV]
 refine .sR fun e h=>?_
 simp only [seval,EME]
 refine mU e (.seqK (.sR fun e h=>?_)) h
 simp only [seval,EME,und_31]
 refine mU e (Mir.join (fun v2 : Unit=>(us 19)) (fun v2=>⟨[[.d (.list (List.map encApiBlock a0.Main)),.d (.list (List.map encSubprogramSub a0.Subs))]],[]⟩) (fun _=>rfl) ?_ ?_) h
 refine .block (.guard fun q1=>Mir.range (fun (i1 : Nat) (v1 : Unit)=>([.d (.list (List.map encApiBlock s1)),.fn 55 [],U,U,U,U,U,.d (.int .i64 (s1.length : Int)),.d (.int .i64 (i1 : Int))] ++ us 10)) (fun i1 v1=>⟨[[.d (.list (List.map encApiBlock a0.Main)),.d (.list (List.map encSubprogramSub a0.Subs))]],[]⟩) q1 (fun _ _=>rfl) (by simp only [seval,FME,zNI]) (by simp only [seval,FME,zNI]) ?_ ?_)
 intro i1 e2 v1 q3
 refine .sR fun e h=>?_
 simp only [seval,EME,q3]
 refine mU e (.seqK (.condT rfl (.skip (Mir.toK (.seqK (.block (.sR fun e h=>?_))))))) h
 simp only [seval,EME]
 refine mU e (.seqK (.bind fun y4 h2=>.region fun e h=>?_)) h
 simp only [seval,EME,und_31,sz_48,q3,Int.toNat_natCast,ag_48]
 refine SpecS.by (sp_marked_spec h2) (by simp only [seval,FME]) ?_
 simp only [seval,EME]
 refine mU e (.cond rfl (fun h3=>?_) (fun h3=>?_)) h
 refine .sR fun e h=>?_
 simp only [seval,EME]
 refine mU e (.ret fun e h=>?_) h
 cases h
 simp only [seval,FME,Tryz.results22]
 refine .skip (Mir.toB (Mir.toK (.region fun e h=>?_)))
 simp only [seval,EME]
 cases h
 simp only [seval,FME,Tryz.results22,q3]
 intro v1 q4
 refine .sR fun e h=>?_
 simp only [seval,EME,q4]
 refine mU e (.seqK (.condF rfl (.exit fun e h=>?_))) h
 cases h
 simp only [seval,FME,Tryz.results22]
 intro v2
 refine Mir.toK (.sR fun e h=>?_)
 simp only [seval,EME]
 refine mU e (.ret fun e h=>?_) h
 cases h
 simp only [seval,FME,Tryz.results22]
 simp only [seval,EME]
 refine mU e (.ret fun e h=>?_) h
 cases h
 simp only [seval,FME,Tryz.results54]
 simp only [seval,EME,hb1,hb4,hb6,hb8]
 cases h
 simp only [seval,FME,hb1,hb4,hb6,hb8]
 refine .region fun e h=>?_
 simp only [seval,EME,fld_38_0,sz_31,ag_31,und_31,sz_48,q2,ag_48,hb1,hb4]
 refine SpecS.by (sp_has_spec hy3) (by simp only [seval,FME,hb1,hb4]) ?_
 simp only [seval,EME,hb1,hb4]
 cases h
 simp only [seval,FME,hb1,hb4]
 intro v5
 refine Mir.toK (.cond rfl (fun h4=>?_) (fun h4=>?_))
 refine .sR fun e h=>?_
 simp only [seval,EME]
 refine mU e (.ret fun e h=>?_) h
 cases h
 simp only [seval,FME,Tryz.results29]
 refine .skip (Mir.toK (.seqK (.bind fun v9 h5=>.region fun e h=>?_)))
 simp only [seval,EME,fld_38_1,sz_36,ag_36]
 refine SpecS.inl Tryz.func56 rfl (by kernel_rfl) (by kernel_rfl) (fun v9 : Bool=>.d (.bool v9)) (fun v9=>⟨[[.d (.list (List.map encApiBlock a0.Main)),.d (.list (List.map encSubprogramSub a0.Subs))]],[]⟩) h5 rfl ?_ ?_
 simp only [List.replicate,List.length,nS,nA,Tryz.ntmps56,SV]
 refine .sR fun e h=>?_
 simp only [seval,EME]
 refine mU e (.seqK (.bind fun v8 h6=>.region fun e h=>?_)) h
 simp only [seval,EME]
 refine SpecS.inl Tryz.func79 rfl (by kernel_rfl) (by kernel_rfl) (fun v8 : Int=>.d (.int .i64 v8)) (fun v8=>⟨[[.d (.list (List.map encApiBlock a0.Main)),.d (.list (List.map encSubprogramSub a0.Subs))]],[]⟩) h6 rfl ?_ ?_
 simp only [List.replicate,List.length,nS,nA,Tryz.ntmps79,SV]
 refine .sR fun e h=>?_
 simp only [seval,EME]
 refine mU e (.seqK (.sR fun e h=>?_)) h
 simp only [seval,EME,und_36]
 refine mU e (Mir.join (fun v7 : Unit=>(us 19)) (fun v7=>⟨[[.d (.list (List.map encApiBlock a0.Main)),.d (.list (List.map encSubprogramSub a0.Subs))]],[]⟩) (fun _=>rfl) ?_ ?_) h
 refine .block (.guard fun q5=>Mir.range (fun (i2 : Nat) (v6 : Unit)=>([.d (.list (List.map encSubprogramSub a0.Subs)),.fn 57 [],U,U,U,U,U,.d (.int .i64 (a0.Subs.length : Int)),.d (.int .i64 (i2 : Int))] ++ us 10)) (fun i2 v6=>⟨[[.d (.list (List.map encApiBlock a0.Main)),.d (.list (List.map encSubprogramSub a0.Subs))]],[]⟩) q5 (fun _ _=>rfl) (by simp only [seval,FME,zNI]) (by simp only [seval,FME,zNI]) ?_ ?_)
 intro i2 e3 v6 q6
 refine .sR fun e h=>?_
 simp only [seval,EME,q6]
 refine mU e (.seqK (.condT rfl (.skip (Mir.toK (.seqK (.block (.sR fun e h=>?_))))))) h
 simp only [seval,EME]
 refine mU e (.seqK (.bind fun y5 h7=>.region fun e h=>?_)) h
 simp only [seval,EME,und_36,sz_75,q6,Int.toNat_natCast,ag_75]
 refine SpecS.by (sp_ordered_c1_spec h7) (by simp only [seval,FME]) ?_
 simp only [seval,EME]
 refine mU e (.cond rfl (fun h8=>?_) (fun h8=>?_)) h
 refine .sR fun e h=>?_
 simp only [seval,EME]
 refine mU e (.ret fun e h=>?_) h
 cases h
 simp only [seval,FME,Tryz.results79]
 refine .skip (Mir.toB (Mir.toK (.region fun e h=>?_)))
 simp only [seval,EME]
 cases h
 simp only [seval,FME,Tryz.results79,q6]
 intro v6 q7
 refine .sR fun e h=>?_
 simp only [seval,EME,q7]
 refine mU e (.seqK (.condF rfl (.exit fun e h=>?_))) h
 cases h
 simp only [seval,FME,Tryz.results79]
 intro v7
 refine Mir.toK (.sR fun e h=>?_)
 simp only [seval,EME]
 refine mU e (.ret fun e h=>?_) h
 cases h
 simp only [seval,FME,Tryz.results79]
 simp only [seval,EME]
 refine mU e (.ret fun e h=>?_) h
 cases h
 simp only [seval,FME,Tryz.results56]
 simp only [seval,EME]
 refine mU e (.ret fun e h=>?_) h
 cases h
 simp only [seval,FME,Tryz.results29]
def sp_repeated (a0 : (List SubprogramSub)) : Option Bool := bindX (guardO (okIdx a0) ( rangeX (fun (i1 : Nat) (e1 : SubprogramSub) (v1 : Unit)=>bindO (cutT a0 (i1 : Int)) fun (s1 : (List SubprogramSub))=>bindO (bindO (bindX (guardO (okIdx s1) ( rangeX (fun (i2 : Nat) (e2 : SubprogramSub) (v2 : Unit)=>bindO (some ()) fun (v3 : Unit)=>if (e1.Number == e2.Number) = true then some (.ret (.ret (i2 : Int))) else some (.go ())) (fun (v2 : Unit)=>some (.go ())) s1 0 ())) fun (v4 : Unit)=>some (-1)) fun (v5 : Int)=>some (decide (v5 ≥ 0))) fun (v6 : Bool)=>if v6 = true then some (.ret (.ret true)) else some (.go ())) (fun (v1 : Unit)=>some (.go ())) a0 0 ())) fun (v7 : Unit)=>some false
theorem sp_repeated_spec {a0 : (List SubprogramSub)} {y : Bool} (h : sp_repeated a0 = some y) : Spec gP 30 [.d (.list (List.map encSubprogramSub a0))] (.d (.bool y)) := by
 refine spec_mir Tryz.func30 rfl (by kernel_rfl) (by kernel_rfl) (fun y : Bool=>.d (.bool y)) ?_ h
 unfold sp_repeated
 simp only [List.replicate,List.length,nS,nA,Tryz.ntmps30,SV]
 refine .sR fun e h=>?_
 simp only [seval,EME]
 refine mU e (.seqK (.sR fun e h=>?_)) h
 simp only [seval,EME,und_36]
 refine mU e (Mir.join (fun v7 : Unit=>(us 18)) (fun v7=>⟨[],[]⟩) (fun _=>rfl) ?_ ?_) h
 refine .block (.guard fun q1=>Mir.range (fun (i1 : Nat) (v1 : Unit)=>([.d (.list (List.map encSubprogramSub a0)),U,U,U,U,.d (.list (List.map encSubprogramSub a0)),.d (.int .i64 (a0.length : Int)),.d (.int .i64 (i1 : Int))] ++ us 10)) (fun i1 v1=>⟨[],[]⟩) q1 (fun _ _=>rfl) (by simp only [seval,FME,zNI]) (by simp only [seval,FME,zNI]) ?_ ?_)
 intro i1 e1 v1 q2
 refine .sR fun e h=>?_
 simp only [seval,EME,q2]
 refine mU e (.seqK (.condT rfl (.skip (Mir.toK (.seqK (.block (.sR fun e h=>?_))))))) h
 simp only [seval,EME,und_36,sz_75,q2,Int.toNat_natCast,ag_75,zero_75]
 refine mU e (.seqK (.bind fun s1 q3=>?_)) h
 replace q3 := cutT_ok q3
 simp only [Int.toNat_natCast] at q3
 refine .bind fun v6 h1=>.region fun e h=>?_
 simp only [seval,EME,und_36,sz_75,q3,Nat.le_refl,and_true,true_and,dm,tm,Int.toNat_natCast,al_SubprogramSub]
 refine SpecS.inl Tryz.func56 rfl (by kernel_rfl) (by kernel_rfl) (fun v6 : Bool=>.d (.bool v6)) (fun v6=>⟨[[.d (.int .i64 e1.Number),.d (.list (List.map encApiBlock e1.Blocks))]],[]⟩) h1 rfl ?_ ?_
 simp only [List.replicate,List.length,nS,nA,Tryz.ntmps56,SV]
 refine .sR fun e h=>?_
 simp only [seval,EME]
 refine mU e (.seqK (.bind fun v5 h2=>.region fun e h=>?_)) h
 simp only [seval,EME]
 refine SpecS.inl Tryz.func79 rfl (by kernel_rfl) (by kernel_rfl) (fun v5 : Int=>.d (.int .i64 v5)) (fun v5=>⟨[[.d (.int .i64 e1.Number),.d (.list (List.map encApiBlock e1.Blocks))]],[]⟩) h2 rfl ?_ ?_
 simp only [List.replicate,List.length,nS,nA,Tryz.ntmps79,SV]
 refine .sR fun e h=>?_
 simp only [seval,EME]
 refine mU e (.seqK (.sR fun e h=>?_)) h
 simp only [seval,EME,und_36]
 refine mU e (Mir.join (fun v4 : Unit=>(us 19)) (fun v4=>⟨[[.d (.int .i64 e1.Number),.d (.list (List.map encApiBlock e1.Blocks))]],[]⟩) (fun _=>rfl) ?_ ?_) h
 refine .block (.guard fun q4=>Mir.range (fun (i2 : Nat) (v2 : Unit)=>([.d (.list (List.map encSubprogramSub s1)),.fn 58 [.ptr 0 0],U,U,U,U,U,.d (.int .i64 (s1.length : Int)),.d (.int .i64 (i2 : Int))] ++ us 10)) (fun i2 v2=>⟨[[.d (.int .i64 e1.Number),.d (.list (List.map encApiBlock e1.Blocks))]],[]⟩) q4 (fun _ _=>rfl) (by simp only [seval,FME,zNI]) (by simp only [seval,FME,zNI]) ?_ ?_)
 intro i2 e2 v2 q5
 refine .sR fun e h=>?_
 simp only [seval,EME,q5]
 refine mU e (.seqK (.condT rfl (.skip (Mir.toK (.seqK (.block (.sR fun e h=>?_))))))) h
 simp only [seval,EME]
 refine mU e (.seqK (.bind fun v3 h3=>.region fun e h=>?_)) h
 simp only [seval,EME,und_36,sz_75,q5,Int.toNat_natCast,ag_75]
 refine SpecS.inl Tryz.func58 rfl (by kernel_rfl) (by kernel_rfl) (fun v3 : Unit=>.d (.bool (e1.Number == e2.Number))) (fun v3=>⟨[[.d (.int .i64 e1.Number),.d (.list (List.map encApiBlock e1.Blocks))]],[]⟩) h3 rfl ?_ ?_
 simp only [List.replicate,List.length,nS,nA,Tryz.ntmps58,SV]
 refine .sR fun e h=>?_
 simp only [seval,EME]
 refine mU e (.sR fun e h=>?_) h
 simp only [seval,EME,fld_75_0,sz_2,ag_2]
 refine mU e (.ret fun e h=>?_) h
 cases h
 simp only [seval,FME,Tryz.results58]
 simp only [seval,EME]
 refine mU e (.cond rfl (fun h4=>?_) (fun h4=>?_)) h
 refine .sR fun e h=>?_
 simp only [seval,EME]
 refine mU e (.ret fun e h=>?_) h
 cases h
 simp only [seval,FME,Tryz.results79]
 refine .skip (Mir.toB (Mir.toK (.region fun e h=>?_)))
 simp only [seval,EME]
 cases h
 simp only [seval,FME,Tryz.results79,q5]
 intro v2 q6
 refine .sR fun e h=>?_
 simp only [seval,EME,q6]
 refine mU e (.seqK (.condF rfl (.exit fun e h=>?_))) h
 cases h
 simp only [seval,FME,Tryz.results79]
 intro v4
 refine Mir.toK (.sR fun e h=>?_)
 simp only [seval,EME]
 refine mU e (.ret fun e h=>?_) h
 cases h
 simp only [seval,FME,Tryz.results79]
 simp only [seval,EME]
 refine mU e (.ret fun e h=>?_) h
 cases h
 simp only [seval,FME,Tryz.results56]
 simp only [seval,EME]
 refine mU e (.cond rfl (fun h5=>?_) (fun h5=>?_)) h
 refine .sR fun e h=>?_
 simp only [seval,EME]
 refine mU e (.ret fun e h=>?_) h
 cases h
 simp only [seval,FME,Tryz.results30]
 refine .skip (Mir.toB (Mir.toK (.region fun e h=>?_)))
 simp only [seval,EME]
 cases h
 simp only [seval,FME,Tryz.results30,q2]
 intro v1 q7
 refine .sR fun e h=>?_
 simp only [seval,EME,q7]
 refine mU e (.seqK (.condF rfl (.exit fun e h=>?_))) h
 cases h
 simp only [seval,FME,Tryz.results30]
 intro v7
 refine Mir.toK (.sR fun e h=>?_)
 simp only [seval,EME]
 refine mU e (.ret fun e h=>?_) h
 cases h
 simp only [seval,FME,Tryz.results30]
def sp_Split (a0 : (List ApiBlock)) : Option (SubprogramProgram × Int) := bindO (bindX (guardO (okIdx a0) ( rangeX (fun (i1 : Nat) (e1 : ApiBlock) (v1 : Unit)=>bindO (sp_Split_c1 e1) fun (y1 : Bool)=>if y1 = true then some (.ret (.ret (i1 : Int))) else some (.go ())) (fun (v1 : Unit)=>some (.go ())) a0 0 ())) fun (v2 : Unit)=>some (-1)) fun (v3 : Int)=>if (decide (v3 < 0)) = true then some (SubprogramProgram.mk [] [],1) else bindO (cutT a0 (IntKind.i64.wrap (v3 + 1))) fun (s1 : (List ApiBlock))=>bindO (slices_Clone_api_Block_api_Block s1) fun (y2 : (List ApiBlock))=>bindO (cutF a0 (IntKind.i64.wrap (v3 + 1))) fun (s2 : (List ApiBlock))=>bindX (loopX (fun (v4 : (List ApiBlock) × (List SubprogramSub))=>if (decide ((v4.1.length : Int) > 0)) = true then bindO (gt v4.1 0) fun (e2 : ApiBlock)=>bindO (sp_beginning e2) fun (y3 : Int × Bool)=>bindO (bindX (guardO (okIdx v4.1) ( rangeX (fun (i2 : Nat) (e3 : ApiBlock) (v5 : Unit)=>bindO (sp_Split_c2 e3) fun (y4 : Bool)=>if y4 = true then some (.ret (.ret (i2 : Int))) else some (.go ())) (fun (v5 : Unit)=>some (.go ())) v4.1 0 ())) fun (v6 : Unit)=>some (-1)) fun (v7 : Int)=>if (!y3.2 || (decide (v7 < 0))) = true then some (.ret (.ret (SubprogramProgram.mk [] [],1))) else bindO (cutL v4.1 1 v7) fun (s3 : (List ApiBlock))=>bindO (slices_Clone_api_Block_api_Block s3) fun (y5 : (List ApiBlock))=>guardO (okLen (v4.2.length + 1)) ( bindO (cutF v4.1 (IntKind.i64.wrap (v7 + 1))) fun (s4 : (List ApiBlock))=>some (.go (s4,v4.2 ++ [SubprogramSub.mk y3.1 y5]))) else some (.ret (.go v4.2))) fuel (s2,[])) fun (v8 : (List SubprogramSub))=>bindO (sp_ordered (SubprogramProgram.mk y2 v8)) fun (y6 : Bool)=>if (!y6) = true then some (SubprogramProgram.mk [] [],1) else bindO (sp_repeated v8) fun (y7 : Bool)=>if y7 = true then some (SubprogramProgram.mk [] [],5) else some (SubprogramProgram.mk y2 v8,0)
theorem sp_Split_spec {a0 : (List ApiBlock)} {y : SubprogramProgram × Int} (h : sp_Split a0 = some y) : Spec gP 7 [.d (.list (List.map encApiBlock a0))] (.tuple [.agg [.d (.list (List.map encApiBlock y.1.Main)),.d (.list (List.map encSubprogramSub y.1.Subs))],.d (.int .i64 y.2)]) := by
 refine spec_mir Tryz.func7 rfl (by kernel_rfl) (by kernel_rfl) (fun y : SubprogramProgram × Int=>.tuple [.agg [.d (.list (List.map encApiBlock y.1.Main)),.d (.list (List.map encSubprogramSub y.1.Subs))],.d (.int .i64 y.2)]) ?_ h
 unfold sp_Split
 simp only [List.replicate,List.length,nS,nA,Tryz.ntmps7,SV]
 refine .sR fun e h=>?_
 simp only [seval,EME,zero_38]
 refine mU e (.seqK (.bind fun v3 hv71=>.region fun e h=>?_)) h
 simp only [seval,EME]
 refine SpecS.inl Tryz.func22 rfl (by kernel_rfl) (by kernel_rfl) (fun v3 : Int=>.d (.int .i64 v3)) (fun v3=>⟨[[.nil,.nil]],[]⟩) hv71 rfl ?_ ?_
 simp only [List.replicate,List.length,nS,nA,Tryz.ntmps22,SV]
 refine .sR fun e h=>?_
 simp only [seval,EME]
 refine mU e (.seqK (.sR fun e h=>?_)) h
 simp only [seval,EME,und_31]
 refine mU e (Mir.join (fun v2 : Unit=>(us 19)) (fun v2=>⟨[[.nil,.nil]],[]⟩) (fun _=>rfl) ?_ ?_) h
 refine .block (.guard fun q1=>Mir.range (fun (i1 : Nat) (v1 : Unit)=>([.d (.list (List.map encApiBlock a0)),.fn 23 [],U,U,U,U,U,.d (.int .i64 (a0.length : Int)),.d (.int .i64 (i1 : Int))] ++ us 10)) (fun i1 v1=>⟨[[.nil,.nil]],[]⟩) q1 (fun _ _=>rfl) (by simp only [seval,FME,zNI]) (by simp only [seval,FME,zNI]) ?_ ?_)
 intro i1 e1 v1 q2
 refine .sR fun e h=>?_
 simp only [seval,EME,q2]
 refine mU e (.seqK (.condT rfl (.skip (Mir.toK (.seqK (.block (.sR fun e h=>?_))))))) h
 simp only [seval,EME]
 refine mU e (.seqK (.bind fun y1 h1=>.region fun e h=>?_)) h
 simp only [seval,EME,und_31,sz_48,q2,Int.toNat_natCast,ag_48]
 refine SpecS.by (sp_Split_c1_spec h1) (by simp only [seval,FME]) ?_
 simp only [seval,EME]
 refine mU e (.cond rfl (fun h2=>?_) (fun h2=>?_)) h
 refine .sR fun e h=>?_
 simp only [seval,EME]
 refine mU e (.ret fun e h=>?_) h
 cases h
 simp only [seval,FME,Tryz.results22]
 refine .skip (Mir.toB (Mir.toK (.region fun e h=>?_)))
 simp only [seval,EME]
 cases h
 simp only [seval,FME,Tryz.results22,q2]
 intro v1 q3
 refine .sR fun e h=>?_
 simp only [seval,EME,q3]
 refine mU e (.seqK (.condF rfl (.exit fun e h=>?_))) h
 cases h
 simp only [seval,FME,Tryz.results22]
 intro v2
 refine Mir.toK (.sR fun e h=>?_)
 simp only [seval,EME]
 refine mU e (.ret fun e h=>?_) h
 cases h
 simp only [seval,FME,Tryz.results22]
 simp only [seval,EME]
 refine mU e (.seqK (.sR fun e h=>?_)) h
 simp only [seval,EME]
 refine mU e (.cond rfl (fun h3=>?_) (fun h3=>?_)) h
 refine .sR fun e h=>?_
 simp only [seval,EME,zero_38,pl_38,sz_38]
 refine mU e (.ret fun e h=>?_) h
 cases h
 simp only [seval,FME,Tryz.results7,ag_38,sz_38]
 refine .skip (Mir.toK (.seqK (.bind fun s1 q4=>?_)))
 replace q4 := cutT_ok q4
 refine .bind fun y2 h4=>.region fun e h=>?_
 simp only [seval,EME,und_31,sz_48,q4,Nat.le_refl,and_true,true_and,dm,tm,al_ApiBlock]
 refine SpecS.by (slices_Clone_api_Block_api_Block_spec h4) (by simp only [seval,FME]) ?_
 simp only [seval,EME,zero_38,pl_38,sz_38]
 refine mU e (.seqK (.bind fun s2 q5=>?_)) h
 replace q5 := cutF_ok q5
 refine .region fun e h=>?_
 simp only [seval,EME,und_31,sz_48,q5,Nat.le_refl,and_true,true_and,dm,tm,al_ApiBlock]
 refine mU e (.seqK (.gh [.cell 1 1 75] rfl (Mir.join (fun v8 : (List SubprogramSub)=>([U,U,.ptr 0 0,U,U,.ptr 1 0] ++ us 62)) (fun v8=>⟨[[.nil,.nil],[.d (.list (List.map encApiBlock y2)),.own 0 (List.map encSubprogramSub v8)]],[(75,v8.length)]⟩) (fun _=>rfl) ?_ ?_))) h
 refine .block (Mir.loop (fun v4 : (List ApiBlock) × (List SubprogramSub)=>([U,U,.ptr 0 0,U,U,.ptr 1 0,.d (.list (List.map encApiBlock v4.1))] ++ us 61)) (fun v4=>⟨[[.nil,.nil],[.d (.list (List.map encApiBlock y2)),.own 0 (List.map encSubprogramSub v4.2)]],[(75,v4.2.length)]⟩) (fun _=>rfl) (by simp only [seval,FME]) (by simp only [seval,FME]) fun v4=>.seqK (.sR fun e h=>?_))
 simp only [seval,EME,und_31]
 refine mU e (.cond rfl (fun h5=>?_) (fun h5=>?_)) h
 refine .skip (Mir.toK (.block (.seqK (.bind fun e2 q6=>?_))))
 replace q6 := gt_ok q6
 simp only [Int.reduceToNat,Int.reduceLT,Nat.sub_zero,dp0] at q6
 refine .bind fun y3 h6=>.region fun e h=>?_
 simp only [seval,EME,und_31,sz_48,q6,ag_48]
 refine SpecS.by (sp_beginning_spec h6) (by simp only [seval,FME]) ?_
 simp only [seval,EME]
 refine mU e (.seqK (.bind fun v7 h7=>.region fun e h=>?_)) h
 simp only [seval,EME]
 refine SpecS.inl Tryz.func22 rfl (by kernel_rfl) (by kernel_rfl) (fun v7 : Int=>.d (.int .i64 v7)) (fun v7=>⟨[[.nil,.nil],[.d (.list (List.map encApiBlock y2)),.own 0 (List.map encSubprogramSub v4.2)]],[(75,v4.2.length)]⟩) h7 rfl ?_ ?_
 simp only [List.replicate,List.length,nS,nA,Tryz.ntmps22,SV]
 refine .sR fun e h=>?_
 simp only [seval,EME]
 refine mU e (.seqK (.sR fun e h=>?_)) h
 simp only [seval,EME,und_31]
 refine mU e (Mir.join (fun v6 : Unit=>(us 19)) (fun v6=>⟨[[.nil,.nil],[.d (.list (List.map encApiBlock y2)),.own 0 (List.map encSubprogramSub v4.2)]],[(75,v4.2.length)]⟩) (fun _=>rfl) ?_ ?_) h
 refine .block (.guard fun q7=>Mir.range (fun (i2 : Nat) (v5 : Unit)=>([.d (.list (List.map encApiBlock v4.1)),.fn 27 [],U,U,U,U,U,.d (.int .i64 (v4.1.length : Int)),.d (.int .i64 (i2 : Int))] ++ us 10)) (fun i2 v5=>⟨[[.nil,.nil],[.d (.list (List.map encApiBlock y2)),.own 0 (List.map encSubprogramSub v4.2)]],[(75,v4.2.length)]⟩) q7 (fun _ _=>rfl) (by simp only [seval,FME,zNI]) (by simp only [seval,FME,zNI]) ?_ ?_)
 intro i2 e3 v5 q8
 refine .sR fun e h=>?_
 simp only [seval,EME,q8]
 refine mU e (.seqK (.condT rfl (.skip (Mir.toK (.seqK (.block (.sR fun e h=>?_))))))) h
 simp only [seval,EME]
 refine mU e (.seqK (.bind fun y4 h8=>.region fun e h=>?_)) h
 simp only [seval,EME,und_31,sz_48,q8,Int.toNat_natCast,ag_48]
 refine SpecS.by (sp_Split_c2_spec h8) (by simp only [seval,FME]) ?_
 simp only [seval,EME]
 refine mU e (.cond rfl (fun h9=>?_) (fun h9=>?_)) h
 refine .sR fun e h=>?_
 simp only [seval,EME]
 refine mU e (.ret fun e h=>?_) h
 cases h
 simp only [seval,FME,Tryz.results22]
 refine .skip (Mir.toB (Mir.toK (.region fun e h=>?_)))
 simp only [seval,EME]
 cases h
 simp only [seval,FME,Tryz.results22,q8]
 intro v5 q9
 refine .sR fun e h=>?_
 simp only [seval,EME,q9]
 refine mU e (.seqK (.condF rfl (.exit fun e h=>?_))) h
 cases h
 simp only [seval,FME,Tryz.results22]
 intro v6
 refine Mir.toK (.sR fun e h=>?_)
 simp only [seval,EME]
 refine mU e (.ret fun e h=>?_) h
 cases h
 simp only [seval,FME,Tryz.results22]
 simp only [seval,EME]
 refine mU e (.seqK (.seqK (.joinV ([U,U,.ptr 0 0,U,U,.ptr 1 0,.d (.list (List.map encApiBlock v4.1)),.d (.int .i64 y3.1),U,.d (.int .i64 v7),U,U,U,U,U,U,U,U,U,U,U,U,U,U,U,U,U,U,U,U,U,U,U,U,U,U,U,U,U,U,U,U,.d (.bool (!y3.2 || (decide (v7 < 0))))] ++ us 25) ⟨[[.nil,.nil],[.d (.list (List.map encApiBlock y2)),.own 0 (List.map encSubprogramSub v4.2)]],[(75,v4.2.length)]⟩ rfl ?_ ?_))) h
 refine SWs.region ?_
 rcases Bool.eq_false_or_eq_true (y3.2) with h10 | h10
 simp only [seval,EME,SL,PB,h10]
 simp only [seval,EME,SL,PB,h10]
 refine Mir.toK (.cond rfl (fun h11=>?_) (fun h11=>?_))
 refine .sR fun e h=>?_
 simp only [seval,EME,zero_38,pl_38,sz_38]
 refine mU e (.ret fun e h=>?_) h
 cases h
 simp only [seval,FME,Tryz.results7,ag_38,sz_38]
 refine .skip (Mir.toK (.seqK (.bind fun s3 q10=>?_)))
 replace q10 := cutL_ok q10
 simp only [Int.reduceToNat,Int.reduceLT,Nat.sub_zero,dp0] at q10
 refine .bind fun y5 h12=>.guard fun q11=>.regionD [] (by kernel_rfl) fun e h=>?_
 simp only [seval,EME,SB,fld_38_1,sz_36,ag_36,und_31,sz_48,q10,Nat.le_refl,and_true,true_and,dm,tm,al_ApiBlock]
 refine Spec.by (slices_Clone_api_Block_api_Block_spec h12) (by simp only [seval,FME]) ?_
 simp only [seval,EME,SB,zero_75,pl_75,und_36,sz_75,(oL 2),app_36,al_SubprogramSub,q11,fld_38_1,sz_36]
 refine mU e (.bind fun s4 q12=>?_) h
 replace q12 := cutF_ok q12
 refine .region fun e h=>?_
 simp only [seval,EME,und_31,sz_48,q12,Nat.le_refl,and_true,true_and,dm,tm,al_ApiBlock]
 cases h
 simp only [seval,FME,Tryz.results7,ag_38,sz_38]
 refine .exit fun e h=>?_
 cases h
 simp only [seval,FME,Tryz.results7,ag_38,sz_38]
 intro v8
 refine Mir.toK (.seqK (.seqK (.bind fun y6 h13=>.region fun e h=>?_)))
 simp only [seval,EME,ag_38,sz_38]
 refine SpecS.by (sp_ordered_spec h13) (by simp only [seval,FME]) ?_
 simp only [seval,EME]
 refine mU e (.cond rfl (fun h14=>?_) (fun h14=>?_)) h
 refine .sR fun e h=>?_
 simp only [seval,EME,zero_38,pl_38,sz_38]
 refine mU e (.ret fun e h=>?_) h
 cases h
 simp only [seval,FME,Tryz.results7,ag_38,sz_38]
 refine .skip (Mir.toK (.seqK (.seqK (.bind fun y7 h15=>.region fun e h=>?_))))
 simp only [seval,EME,fld_38_1,sz_36,ag_36]
 refine SpecS.by (sp_repeated_spec h15) (by simp only [seval,FME]) ?_
 simp only [seval,EME]
 refine mU e (.cond rfl (fun h16=>?_) (fun h16=>?_)) h
 refine .sR fun e h=>?_
 simp only [seval,EME,zero_38,pl_38,sz_38]
 refine mU e (.ret fun e h=>?_) h
 cases h
 simp only [seval,FME,Tryz.results7,ag_38,sz_38]
 refine .skip (Mir.toK (.sR fun e h=>?_))
 simp only [seval,EME,ag_38,sz_38]
 refine mU e (.ret fun e h=>?_) h
 cases h
 simp only [seval,FME,Tryz.results7,ag_38,sz_38]
def sp_proper (a0 : SubprogramProgram) : Option Bool := bindX (guardO (okIdx a0.Subs) ( rangeX (fun (i1 : Nat) (e1 : SubprogramSub) (v1 : Unit)=>if ((decide (e1.Number < 1)) || (decide (e1.Number > 9999))) = true then some (.ret (.ret false)) else some (.go ())) (fun (v1 : Unit)=>some (.go ())) a0.Subs 0 ())) fun (v2 : Unit)=>bindO (bindO (sp_ordered a0) fun (y1 : Bool)=>if y1 = true then bindO (sp_repeated a0.Subs) fun (y2 : Bool)=>some (!y2) else some false) fun (v3 : Bool)=>some v3
theorem sp_proper_spec {a0 : SubprogramProgram} {y : Bool} (h : sp_proper a0 = some y) : Spec gP 80 [.agg [.d (.list (List.map encApiBlock a0.Main)),.d (.list (List.map encSubprogramSub a0.Subs))]] (.d (.bool y)) := by
 refine spec_mir Tryz.func80 rfl (by kernel_rfl) (by kernel_rfl) (fun y : Bool=>.d (.bool y)) ?_ h
 unfold sp_proper
 simp only [List.replicate,List.length,nS,nA,Tryz.ntmps80,SV]
 refine .sR fun e h=>?_
 simp only [seval,EME]
 refine mU e (.seqK (.sR fun e h=>?_)) h
 simp only [seval,EME,fld_38_1,sz_36,ag_36,und_36]
 refine mU e (Mir.join (fun v2 : Unit=>([U,.ptr 0 0] ++ us 27)) (fun v2=>⟨[[.d (.list (List.map encApiBlock a0.Main)),.d (.list (List.map encSubprogramSub a0.Subs))]],[]⟩) (fun _=>rfl) ?_ ?_) h
 refine .block (.guard fun qg65=>Mir.range (fun (i1 : Nat) (v1 : Unit)=>([U,.ptr 0 0,U,U,U,U,.d (.list (List.map encSubprogramSub a0.Subs)),.d (.int .i64 (a0.Subs.length : Int)),.d (.int .i64 (i1 : Int))] ++ us 20)) (fun i1 v1=>⟨[[.d (.list (List.map encApiBlock a0.Main)),.d (.list (List.map encSubprogramSub a0.Subs))]],[]⟩) qg65 (fun _ _=>rfl) (by simp only [seval,FME,zNI]) (by simp only [seval,FME,zNI]) ?_ ?_)
 intro i1 e1 v1 qr63
 refine .sR fun e h=>?_
 simp only [seval,EME,qr63]
 refine mU e (.seqK (.condT rfl (.skip (Mir.toK (.seqK (.block (.sR fun e h=>?_))))))) h
 simp only [seval,EME,und_36,sz_75,qr63,Int.toNat_natCast,ag_75,zero_75]
 refine mU e (.seqK (.joinV ([U,.ptr 0 0,U,U,U,U,.d (.list (List.map encSubprogramSub a0.Subs)),.d (.int .i64 (a0.Subs.length : Int)),.d (.int .i64 (i1 : Int)),U,U,U,U,U,U,U,U,U,U,.d (.bool ((decide (e1.Number < 1)) || (decide (e1.Number > 9999))))] ++ us 9) ⟨[[.d (.list (List.map encApiBlock a0.Main)),.d (.list (List.map encSubprogramSub a0.Subs))],[.d (.int .i64 e1.Number),.d (.list (List.map encApiBlock e1.Blocks))]],[]⟩ rfl ?_ ?_)) h
 refine SWs.region ?_
 rcases Bool.eq_false_or_eq_true (decide (e1.Number < 1)) with hb68 | hb68
 simp only [seval,EME,SL,PB,fld_75_0,sz_2,ag_2,hb68]
 simp only [seval,EME,SL,PB,fld_75_0,sz_2,ag_2,hb68]
 refine Mir.toK (.cond rfl (fun hb70=>?_) (fun hb70=>?_))
 refine .sR fun e h=>?_
 simp only [seval,EME]
 refine mU e (.ret fun e h=>?_) h
 cases h
 simp only [seval,FME,Tryz.results80]
 refine .skip (Mir.toB (Mir.toK (.region fun e h=>?_)))
 simp only [seval,EME]
 cases h
 simp only [seval,FME,Tryz.results80,qr63]
 intro v1 qd64
 refine .sR fun e h=>?_
 simp only [seval,EME,qd64]
 refine mU e (.seqK (.condF rfl (.exit fun e h=>?_))) h
 cases h
 simp only [seval,FME,Tryz.results80]
 intro v2
 refine Mir.toK (.seqK (Mir.joinO (fun v3 : Bool=>([U,U,.d (.bool v3)] ++ us 26)) (fun v3=>⟨[[.d (.list (List.map encApiBlock a0.Main)),.d (.list (List.map encSubprogramSub a0.Subs))]],[]⟩) (fun _=>rfl) ?_ ?_))
 refine .bind fun y1 hy71=>.ite (fun hb72=>?_) (fun hb72=>?_)
 refine .bind fun y2 hy73=>.region fun e h=>?_
 simp only [seval,EME,ag_38,sz_38,hb72]
 refine SpecS.by (sp_ordered_spec hy71) (by simp only [seval,FME,hb72]) ?_
 simp only [seval,EME,fld_38_1,sz_36,ag_36,hb72]
 refine SpecS.by (sp_repeated_spec hy73) (by simp only [seval,FME,hb72]) ?_
 simp only [seval,EME,hb72]
 cases h
 simp only [seval,FME,hb72]
 refine .region fun e h=>?_
 simp only [seval,EME,ag_38,sz_38,hb72]
 refine SpecS.by (sp_ordered_spec hy71) (by simp only [seval,FME,hb72]) ?_
 simp only [seval,EME,hb72]
 cases h
 simp only [seval,FME,hb72]
 intro v3
 refine Mir.toK (.ret fun e h=>?_)
 cases h
 simp only [seval,FME,Tryz.results80]
def slices_Concat_api_Block_api_Block (a0 : (List (List ApiBlock))) : Option (List ApiBlock) := bindO (guardO (okIdx a0) ( rangeX (fun (i1 : Nat) (e1 : (List ApiBlock)) (v1 : Int)=>if (decide ((IntKind.i64.wrap (v1 + (e1.length : Int))) < 0)) = true then none else some (.go (IntKind.i64.wrap (v1 + (e1.length : Int))))) (fun (v1 : Int)=>some v1) a0 0 0)) fun (v2 : Int)=>guardO (decide (0 ≤ v2 ∧ v2 ≤ 16777216)) ( bindO (guardO (okIdx a0) ( rangeX (fun (i2 : Nat) (e2 : (List ApiBlock)) (v3 : (List ApiBlock))=>guardO (okLen (v3.length + e2.length)) ( some (.go (v3 ++ e2)))) (fun (v3 : (List ApiBlock))=>some v3) a0 0 [])) fun (v4 : (List ApiBlock))=>some v4)
theorem slices_Concat_api_Block_api_Block_spec {a0 : (List (List ApiBlock))} {y : (List ApiBlock)} (h : slices_Concat_api_Block_api_Block a0 = some y) : Spec gP 81 [.d (.list (List.map (eList encApiBlock) a0))] (.d (.list (List.map encApiBlock y))) := by
 refine spec_mir Tryz.func81 rfl (by kernel_rfl) (by kernel_rfl) (fun y : (List ApiBlock)=>.d (.list (List.map encApiBlock y))) ?_ h
 unfold slices_Concat_api_Block_api_Block
 simp only [List.replicate,List.length,nS,nA,Tryz.ntmps81,SV]
 refine .sR fun e h=>?_
 simp only [seval,EME,eList]
 refine mU e (.sR fun e h=>?_) h
 simp only [seval,EME,eList]
 refine mU e (.seqK (.sR fun e h=>?_)) h
 simp only [seval,EME,und_142,eList]
 refine mU e (Mir.joinO (fun v2 : Int=>([.d (.list (List.map (eList encApiBlock) a0)),U,U,.d (.int .i64 v2)] ++ us 32)) (fun v2=>⟨[],[]⟩) (fun _=>rfl) ?_ ?_) h
 refine .block (.guard fun qg51=>Mir.range (fun (i1 : Nat) (v1 : Int)=>([.d (.list (List.map (eList encApiBlock) a0)),U,U,.d (.int .i64 v1),U,U,U,U,U,.d (.list (List.map (eList encApiBlock) a0)),.d (.int .i64 (a0.length : Int)),.d (.int .i64 (i1 : Int))] ++ us 24)) (fun i1 v1=>⟨[],[]⟩) qg51 (fun _ _=>rfl) (by simp only [seval,FME,eList,zNI]) (by simp only [seval,FME,eList,zNI]) ?_ ?_)
 intro i1 e1 v1 qr49
 refine .sR fun e h=>?_
 simp only [seval,EME,qr49,eList]
 refine mU e (.seqK (.condT rfl (.skip (Mir.toK (.seqK (.block (.sR fun e h=>?_))))))) h
 simp only [seval,EME,und_142,sz_31,qr49,Int.toNat_natCast,ag_31,eList]
 refine mU e (.sR fun e h=>?_) h
 simp only [seval,EME,und_31,eList]
 refine mU e (.sR fun e h=>?_) h
 simp only [seval,EME,eList]
 refine mU e (.cond rfl (fun hb54=>?_) (fun hb54=>?_)) h
 exact Mir.no
 refine .skip (Mir.toB (Mir.toK (.region fun e h=>?_)))
 simp only [seval,EME,eList]
 cases h
 simp only [seval,FME,eList,Tryz.results81,qr49]
 intro v1 qd50
 refine .sR fun e h=>?_
 simp only [seval,EME,qd50,eList]
 refine mU e (.seqK (.condF rfl (.exit fun e h=>?_))) h
 cases h
 simp only [seval,FME,eList,Tryz.results81]
 intro v2
 refine Mir.toK (.seqK (.guard fun q55=>.region fun e h=>?_))
 simp only [seval,EME,eList]
 refine grow_S q55 ?_
 simp only [seval,EME,eList]
 refine mU e (.seqK (.sR fun e h=>?_)) h
 simp only [seval,EME,und_142,eList]
 refine mU e (Mir.joinO (fun v4 : (List ApiBlock)=>([U,U,U,U,U,U,.own 0 (List.map encApiBlock v4)] ++ us 29)) (fun v4=>⟨[],[(48,v4.length)]⟩) (fun _=>rfl) ?_ ?_) h
 refine .block (.guard fun qg99=>Mir.range (fun (i2 : Nat) (v3 : (List ApiBlock))=>([U,U,U,U,U,U,.own 0 (List.map encApiBlock v3),U,U,U,U,U,U,U,U,U,U,U,U,U,U,U,U,U,U,.d (.list (List.map (eList encApiBlock) a0)),.d (.int .i64 (a0.length : Int)),.d (.int .i64 (i2 : Int))] ++ us 8)) (fun i2 v3=>⟨[],[(48,v3.length)]⟩) qg99 (fun _ _=>rfl) (by simp only [seval,FME,eList,zNI]) (by simp only [seval,FME,eList,zNI]) ?_ ?_)
 intro i2 e2 v3 qr97
 refine .sR fun e h=>?_
 simp only [seval,EME,qr97,eList]
 refine mU e (.seqK (.condT rfl (.skip (Mir.toK (.seqK (.block (.sR fun e h=>?_))))))) h
 simp only [seval,EME,und_142,sz_31,qr97,Int.toNat_natCast,ag_31,eList]
 refine mU e (.guard fun q1=>.region fun e h=>?_) h
 simp only [seval,EME,app_31,al_ApiBlock,q1,eList]
 refine mU e (.region fun e h=>?_) h
 simp only [seval,EME,eList]
 cases h
 simp only [seval,FME,eList,Tryz.results81,qr97]
 intro v3 qd98
 refine .sR fun e h=>?_
 simp only [seval,EME,qd98,eList]
 refine mU e (.seqK (.condF rfl (.exit fun e h=>?_))) h
 cases h
 simp only [seval,FME,eList,Tryz.results81]
 intro v4
 refine Mir.toK (.sR fun e h=>?_)
 simp only [seval,EME,eList]
 refine mU e (.ret fun e h=>?_) h
 cases h
 simp only [seval,FME,eList,Tryz.results81]
def sp_Call (a0 : ApiBlock) : Option (Int × Int × Bool × Int) := bindO (sp_has a0 77 98000) fun (y1 : Bool)=>if (!y1) = true then some (0,0,false,0) else bindO (guardO (okIdx a0.Words) ( rangeX (fun (i1 : Nat) (e1 : ApiWord) (v1 : Int × Int × Bool × (List (Int × Int)))=>bindO (bindO (sp_whole e1.Value) fun (y2 : Int × Bool)=>if (e1.Letter == 80) = true then some (y2.1,v1.2.1,v1.2.2.1 && y2.2) else if (e1.Letter == 76) = true then some (v1.1,y2.1,v1.2.2.1 && y2.2) else bindO (if (e1.Letter == 77) = true then some (e1.Letter == 77) else some (e1.Letter == 78)) fun (v2 : Bool)=>if v2 = true then some (v1.1,v1.2.1,v1.2.2.1) else some (v1.1,v1.2.1,false)) fun (v3 : Int × Int × Bool)=>some (.go (v3.1,v3.2.1,v3.2.2,mput v1.2.2.2 e1.Letter (IntKind.i64.wrap (((mget v1.2.2.2 e1.Letter).getD 0) + 1))))) (fun (v1 : Int × Int × Bool × (List (Int × Int)))=>some (v1.1,v1.2.1,v1.2.2.1,v1.2.2.2)) a0.Words 0 (0,1,true,[]))) fun (v4 : Int × Int × Bool × (List (Int × Int)))=>bindO (if v4.2.2.1 = true then if (((mget v4.2.2.2 77).getD 0) != 1) = true then some true else if (((mget v4.2.2.2 80).getD 0) != 1) = true then some true else if (decide (((mget v4.2.2.2 76).getD 0) > 1)) = true then some true else some (decide (((mget v4.2.2.2 78).getD 0) > 1)) else some true) fun (v5 : Bool)=>if v5 = true then some (0,0,false,1) else some (v4.1,v4.2.1,true,0)
theorem sp_Call_spec {a0 : ApiBlock} {y : Int × Int × Bool × Int} (h : sp_Call a0 = some y) : Spec gP 61 [.agg [.d (.bool a0.Skip),.d (.list (List.map encApiWord a0.Words)),.d (.str a0.Comment)]] (.tuple [.d (.int .i64 y.1),.d (.int .i64 y.2.1),.d (.bool y.2.2.1),.d (.int .i64 y.2.2.2)]) := by
 refine spec_mir Tryz.func61 rfl (by kernel_rfl) (by kernel_rfl) (fun y : Int × Int × Bool × Int=>.tuple [.d (.int .i64 y.1),.d (.int .i64 y.2.1),.d (.bool y.2.2.1),.d (.int .i64 y.2.2.2)]) ?_ h
 unfold sp_Call
 simp only [List.replicate,List.length,nS,nA,Tryz.ntmps61,SV]
 refine .sR fun e h=>?_
 simp only [seval,EME]
 refine mU e (.seqK (.seqK (.bind fun y1 hy1=>.region fun e h=>?_))) h
 simp only [seval,EME,ag_48,sz_48]
 refine SpecS.by (sp_has_spec hy1) (by simp only [seval,FME]) ?_
 simp only [seval,EME]
 refine mU e (.cond rfl (fun hb3=>?_) (fun hb3=>?_)) h
 refine .sR fun e h=>?_
 simp only [seval,EME]
 refine mU e (.ret fun e h=>?_) h
 cases h
 simp only [seval,FME,Tryz.results61]
 refine .skip (Mir.toK (.seqK (.regionW fun e h=>regW.alt 0 rfl ?_)))
 simp only [seval,EME,w_none,w_eq]
 refine alt_makeMap .u8 (regW.of ?_)
 simp only [seval,EME,w_none,w_eq,xMN]
 refine mU e (.sR fun e h=>?_) h
 simp only [seval,EME]
 refine mU e (.seqK (.sR fun e h=>?_)) h
 simp only [seval,EME,fld_48_1,sz_46,ag_46,und_46]
 refine mU e (Mir.joinO (fun v4 : Int × Int × Bool × (List (Int × Int))=>([U,U,U,U,U,U,.mp 1,.d (.int .i64 v4.1),.d (.int .i64 v4.2.1),.d (.bool v4.2.2.1)] ++ us 70)) (fun v4=>⟨[[.d (.bool a0.Skip),.d (.list (List.map encApiWord a0.Words)),.d (.str a0.Comment)],[.mapc .u8 (List.map (ekv (evI .i64)) v4.2.2.2)]],[]⟩) (fun _=>rfl) ?_ ?_) h
 refine .block (.guard fun q1=>Mir.range (fun (i1 : Nat) (v1 : Int × Int × Bool × (List (Int × Int)))=>([U,U,U,U,U,U,.mp 1,.d (.int .i64 v1.1),.d (.int .i64 v1.2.1),.d (.bool v1.2.2.1),U,U,U,U,U,U,U,U,U,.d (.list (List.map encApiWord a0.Words)),.d (.int .i64 (a0.Words.length : Int)),.d (.int .i64 (i1 : Int))] ++ us 58)) (fun i1 v1=>⟨[[.d (.bool a0.Skip),.d (.list (List.map encApiWord a0.Words)),.d (.str a0.Comment)],[.mapc .u8 (List.map (ekv (evI .i64)) v1.2.2.2)]],[]⟩) q1 (fun _ _=>rfl) (by simp only [seval,FME,zNI]) (by simp only [seval,FME,zNI]) ?_ ?_)
 intro i1 e1 v1 q2
 refine .sR fun e h=>?_
 simp only [seval,EME,q2]
 refine mU e (.seqK (.condT rfl (.skip (Mir.toK (.seqK (Mir.joinO (fun v3 : Int × Int × Bool=>([U,U,U,U,U,U,.mp 1,.d (.int .i64 v3.1),.d (.int .i64 v3.2.1),.d (.bool v3.2.2),U,U,U,U,U,U,U,U,U,.d (.list (List.map encApiWord a0.Words)),.d (.int .i64 (a0.Words.length : Int)),.d (.int .i64 (i1 : Int))] ++ us 58)) (fun v3=>⟨[[.d (.bool a0.Skip),.d (.list (List.map encApiWord a0.Words)),.d (.str a0.Comment)],[.mapc .u8 (List.map (ekv (evI .i64)) (mput v1.2.2.2 e1.Letter (IntKind.i64.wrap (((mget v1.2.2.2 e1.Letter).getD 0) + 1))))]],[]⟩) (fun _=>rfl) ?_ ?_)))))) h
 refine .block (.sR fun e h=>?_)
 simp only [seval,EME,und_46,sz_83,q2,Int.toNat_natCast,ag_83,zero_83]
 refine mU e (.seqK (.regionW fun e h=>regW.alt 3 rfl ?_)) h
 simp only [seval,EME,w_none,w_eq,fld_83_0,sz_5,ag_5]
 refine alt_lookup rfl rfl rfl (by simp only [mapT,und_145,und_5]) zero_3 rfl (regW.alt 1 rfl ?_)
 simp only [seval,EME,w_none,w_eq,mg_I]
 refine alt_mapUpdate (et := 3) rfl rfl rfl rfl (by simp only [mapT,und_145,und_5]) (regW.of ?_)
 simp only [seval,EME,w_none,w_eq,mp_I]
 refine mU e (.seqK (.bind fun y2 h1=>.region fun e h=>?_)) h
 simp only [seval,EME,fld_83_1,sz_2,ag_2]
 refine SpecS.by (sp_whole_spec h1) (by simp only [seval,FME]) ?_
 simp only [seval,EME]
 refine mU e (.sR fun e h=>?_) h
 simp only [seval,EME,fld_83_0,sz_5,ag_5]
 refine mU e (.block (.sR fun e h=>?_)) h
 simp only [seval,EME]
 refine mU e (.cond rfl (fun h2=>?_) (fun h2=>?_)) h
 refine .joinV ([U,U,U,U,U,U,.mp 1,.d (.int .i64 y2.1),.d (.int .i64 v1.2.1),.d (.bool (v1.2.2.1 && y2.2)),U,U,U,U,U,U,U,U,U,.d (.list (List.map encApiWord a0.Words)),.d (.int .i64 (a0.Words.length : Int)),.d (.int .i64 (i1 : Int))] ++ us 58) ⟨[[.d (.bool a0.Skip),.d (.list (List.map encApiWord a0.Words)),.d (.str a0.Comment)],[.mapc .u8 (List.map (ekv (evI .i64)) (mput v1.2.2.2 e1.Letter (IntKind.i64.wrap (((mget v1.2.2.2 e1.Letter).getD 0) + 1))))],[.d (.int .u8 e1.Letter),.d (.int .i64 e1.Value)]],[]⟩ rfl ?_ ?_
 refine SWs.region ?_
 rcases Bool.eq_false_or_eq_true (v1.2.2.1) with h3 | h3
 simp only [seval,EME,SL,PB,h3]
 simp only [seval,EME,SL,PB,h3]
 intro e h
 cases h
 simp only [seval,FME,Tryz.results61]
 refine .sR fun e h=>?_
 simp only [seval,EME]
 refine mU e (.cond rfl (fun h4=>?_) (fun h4=>?_)) h
 refine .joinV ([U,U,U,U,U,U,.mp 1,.d (.int .i64 v1.1),.d (.int .i64 y2.1),.d (.bool (v1.2.2.1 && y2.2)),U,U,U,U,U,U,U,U,U,.d (.list (List.map encApiWord a0.Words)),.d (.int .i64 (a0.Words.length : Int)),.d (.int .i64 (i1 : Int))] ++ us 58) ⟨[[.d (.bool a0.Skip),.d (.list (List.map encApiWord a0.Words)),.d (.str a0.Comment)],[.mapc .u8 (List.map (ekv (evI .i64)) (mput v1.2.2.2 e1.Letter (IntKind.i64.wrap (((mget v1.2.2.2 e1.Letter).getD 0) + 1))))],[.d (.int .u8 e1.Letter),.d (.int .i64 e1.Value)]],[]⟩ rfl ?_ ?_
 refine SWs.region ?_
 rcases Bool.eq_false_or_eq_true (v1.2.2.1) with h5 | h5
 simp only [seval,EME,SL,PB,h5]
 simp only [seval,EME,SL,PB,h5]
 intro e h
 cases h
 simp only [seval,FME,Tryz.results61]
 refine .seqK (.sR fun e h=>?_)
 simp only [seval,EME]
 refine mU e (Mir.joinO (fun v2 : Bool=>([U,U,U,U,U,U,.mp 1,.d (.int .i64 v1.1),.d (.int .i64 v1.2.1),.d (.bool v1.2.2.1),U,U,U,U,U,U,U,U,U,.d (.list (List.map encApiWord a0.Words)),.d (.int .i64 (a0.Words.length : Int)),.d (.int .i64 (i1 : Int)),U,U,U,U,U,U,U,U,U,U,U,U,U,U,U,U,U,U,U,U,U,U,U,U,U,U,U,U,U,U,.d (.bool v2)] ++ us 27)) (fun v2=>⟨[[.d (.bool a0.Skip),.d (.list (List.map encApiWord a0.Words)),.d (.str a0.Comment)],[.mapc .u8 (List.map (ekv (evI .i64)) (mput v1.2.2.2 e1.Letter (IntKind.i64.wrap (((mget v1.2.2.2 e1.Letter).getD 0) + 1))))],[.d (.int .u8 e1.Letter),.d (.int .i64 e1.Value)]],[]⟩) (fun _=>rfl) ?_ ?_) h
 refine .cond rfl (fun h6=>?_) (fun h6=>?_)
 refine .skip fun e h=>?_
 cases h
 simp only [seval,FME,Tryz.results61]
 refine .region fun e h=>?_
 simp only [seval,EME]
 cases h
 simp only [seval,FME,Tryz.results61]
 intro v2
 refine Mir.toK (.cond rfl (fun h7=>?_) (fun h7=>?_))
 refine .skip fun e h=>?_
 cases h
 simp only [seval,FME,Tryz.results61]
 refine .region fun e h=>?_
 simp only [seval,EME]
 cases h
 simp only [seval,FME,Tryz.results61]
 intro v3
 refine Mir.toK (.region fun e h=>?_)
 simp only [seval,EME]
 cases h
 simp only [seval,FME,Tryz.results61,q2]
 intro v1 q3
 refine .sR fun e h=>?_
 simp only [seval,EME,q3]
 refine mU e (.seqK (.condF rfl (.exit fun e h=>?_))) h
 cases h
 simp only [seval,FME,Tryz.results61]
 intro v4
 refine Mir.toK (.seqK (.seqK (Mir.joinO (fun v5 : Bool=>[U,U,U,U,U,U,U,.d (.int .i64 v4.1),.d (.int .i64 v4.2.1),U,U,U,U,U,U,U,U,U,U,U,U,U,U,U,U,U,U,U,U,U,U,U,U,U,U,U,U,U,U,U,U,U,U,U,U,U,U,U,U,U,U,U,U,U,U,U,U,U,U,U,U,U,U,U,U,U,U,U,U,U,U,U,U,U,U,U,U,.d (.bool v5),U,U]) (fun v5=>⟨[[.d (.bool a0.Skip),.d (.list (List.map encApiWord a0.Words)),.d (.str a0.Comment)],[.mapc .u8 (List.map (ekv (evI .i64)) v4.2.2.2)]],[]⟩) (fun _=>rfl) ?_ ?_)))
 refine .ite (fun h8=>?_) (fun h8=>?_)
 refine .ite (fun h9=>?_) (fun h9=>?_)
 refine .regionW fun e h=>regW.alt 4 rfl ?_
 simp only [seval,EME,w_none,w_eq,h8,h9]
 refine alt_lookup rfl rfl rfl (by simp only [mapT,und_145,und_5]) zero_3 rfl (regW.of ?_)
 simp only [seval,EME,w_none,w_eq,mg_I,h8,h9]
 cases h
 simp only [seval,FME,h8,h9]
 refine .ite (fun h10=>?_) (fun h10=>?_)
 refine .regionW fun e h=>regW.alt 4 rfl ?_
 simp only [seval,EME,w_none,w_eq,h8,h9,h10]
 refine alt_lookup rfl rfl rfl (by simp only [mapT,und_145,und_5]) zero_3 rfl (regW.alt 4 rfl ?_)
 simp only [seval,EME,w_none,w_eq,mg_I,h8,h9,h10]
 refine alt_lookup rfl rfl rfl (by simp only [mapT,und_145,und_5]) zero_3 rfl (regW.of ?_)
 simp only [seval,EME,w_none,w_eq,mg_I,h8,h9,h10]
 cases h
 simp only [seval,FME,h8,h9,h10]
 refine .ite (fun h11=>?_) (fun h11=>?_)
 refine .regionW fun e h=>regW.alt 4 rfl ?_
 simp only [seval,EME,w_none,w_eq,h8,h9,h10,h11]
 refine alt_lookup rfl rfl rfl (by simp only [mapT,und_145,und_5]) zero_3 rfl (regW.alt 4 rfl ?_)
 simp only [seval,EME,w_none,w_eq,mg_I,h8,h9,h10,h11]
 refine alt_lookup rfl rfl rfl (by simp only [mapT,und_145,und_5]) zero_3 rfl (regW.alt 4 rfl ?_)
 simp only [seval,EME,w_none,w_eq,mg_I,h8,h9,h10,h11]
 refine alt_lookup rfl rfl rfl (by simp only [mapT,und_145,und_5]) zero_3 rfl (regW.of ?_)
 simp only [seval,EME,w_none,w_eq,mg_I,h8,h9,h10,h11]
 cases h
 simp only [seval,FME,h8,h9,h10,h11]
 refine .regionW fun e h=>regW.alt 4 rfl ?_
 simp only [seval,EME,w_none,w_eq,h8,h9,h10,h11]
 refine alt_lookup rfl rfl rfl (by simp only [mapT,und_145,und_5]) zero_3 rfl (regW.alt 4 rfl ?_)
 simp only [seval,EME,w_none,w_eq,mg_I,h8,h9,h10,h11]
 refine alt_lookup rfl rfl rfl (by simp only [mapT,und_145,und_5]) zero_3 rfl (regW.alt 4 rfl ?_)
 simp only [seval,EME,w_none,w_eq,mg_I,h8,h9,h10,h11]
 refine alt_lookup rfl rfl rfl (by simp only [mapT,und_145,und_5]) zero_3 rfl (regW.alt 4 rfl ?_)
 simp only [seval,EME,w_none,w_eq,mg_I,h8,h9,h10,h11]
 refine alt_lookup rfl rfl rfl (by simp only [mapT,und_145,und_5]) zero_3 rfl (regW.of ?_)
 simp only [seval,EME,w_none,w_eq,mg_I,h8,h9,h10,h11]
 cases h
 simp only [seval,FME,h8,h9,h10,h11]
 refine .region fun e h=>?_
 simp only [seval,EME,h8]
 cases h
 simp only [seval,FME,h8]
 intro v5
 refine Mir.toK (.cond rfl (fun h12=>?_) (fun h12=>?_))
 refine .sR fun e h=>?_
 simp only [seval,EME]
 refine mU e (.ret fun e h=>?_) h
 cases h
 simp only [seval,FME,Tryz.results61]
 refine .skip (Mir.toK (.sR fun e h=>?_))
 simp only [seval,EME]
 refine mU e (.ret fun e h=>?_) h
 cases h
 simp only [seval,FME,Tryz.results61]
def sp_Expand (a0 : SubprogramProgram) : Option ((List ApiBlock) × Int) := bindO (bindO (bindO (sp_proper (SubprogramProgram.mk a0.Main a0.Subs)) fun (y1 : Bool)=>if (!y1) = true then none else bindO (guardO (okIdx a0.Subs) ( rangeX (fun (i1 : Nat) (e1 : SubprogramSub) (v1 : (List (List ApiBlock)) × (List (Int × (List ApiBlock))))=>guardO (okLen (v1.1.length + 1)) ( some (.go (v1.1 ++ [e1.Blocks],mput v1.2 e1.Number e1.Blocks)))) (fun (v1 : (List (List ApiBlock)) × (List (Int × (List ApiBlock))))=>some (v1.1,v1.2)) a0.Subs 0 ([a0.Main],[]))) fun (v2 : (List (List ApiBlock)) × (List (Int × (List ApiBlock))))=>bindO (slices_Concat_api_Block_api_Block v2.1) fun (y2 : (List ApiBlock))=>bindX (guardO (okIdx y2) ( rangeX (fun (i2 : Nat) (e2 : ApiBlock) (v3 : (List Int))=>bindX (bindO (sp_Call e2) fun (y3 : Int × Int × Bool × Int)=>if (y3.2.2.2 != 0) = true then none else if y3.2.2.1 = true then guardO (okLen (v3.length + 1)) ( some (.go (v3 ++ [y3.1]))) else some (.go v3)) fun (v4 : (List Int))=>some (.go v4)) (fun (v3 : (List Int))=>some (.go v3)) y2 0 [])) fun (v5 : (List Int))=>bindX (guardO (okIdx v5) ( rangeX (fun (i3 : Nat) (e3 : Int) (v6 : Unit)=>if (!((mget v2.2 e3).isSome)) = true then none else some (.go ())) (fun (v6 : Unit)=>some (.go ())) v5 0 ())) fun (v7 : Unit)=>bindX (guardO (okIdx a0.Subs) ( rangeX (fun (i4 : Nat) (e4 : SubprogramSub) (v8 : (List (Int × Int)) × (List (Int × Int)) × (List (Int × Int)))=>bindO (if (((mget v8.1 e4.Number).getD 0) == 1) = true then some (false,v8.1,v8.2.1,v8.2.2) else if (((mget v8.1 e4.Number).getD 0) == 2) = true then some (true,v8.1,v8.2.1,v8.2.2) else bindO (guardO (okIdx ((mget v2.2 e4.Number).getD [])) ( rangeX (fun (i5 : Nat) (e5 : ApiBlock) (v9 : Unit)=>bindO (sp_Call e5) fun (y4 : Int × Int × Bool × Int)=>bindO (if y4.2.2.1 = true then none else some ()) fun (v10 : Unit)=>some (.go ())) (fun (v9 : Unit)=>some ()) ((mget v2.2 e4.Number).getD []) 0 ())) fun (v11 : Unit)=>bindO (bindO (guardO (okIdx ((mget v2.2 e4.Number).getD [])) ( rangeX (fun (i6 : Nat) (e6 : ApiBlock) (v12 : Int × Int)=>bindO (sp_Call e6) fun (y5 : Int × Int × Bool × Int)=>bindO (if (!y5.2.2.1) = true then some (v12.1,IntKind.i64.wrap (v12.2 + 1)) else some (mmI true v12.1 (IntKind.i64.wrap (1 + ((mget v8.2.1 y5.1).getD 0))),IntKind.i64.wrap (v12.2 + (mmI false (IntKind.i64.wrap (y5.2.1 * ((mget v8.2.2 y5.1).getD 0))) 20001)))) fun (v13 : Int × Int)=>some (.go (v13.1,mmI false v13.2 20001))) (fun (v12 : Int × Int)=>some (v12.1,v12.2)) ((mget v2.2 e4.Number).getD []) 0 (0,0))) fun (v14 : Int × Int)=>some (v14.1,v14.2)) fun (v15 : Int × Int)=>some (true,mput (mput v8.1 e4.Number 1) e4.Number 2,mput v8.2.1 e4.Number v15.1,mput v8.2.2 e4.Number v15.2)) fun (v16 : Bool × (List (Int × Int)) × (List (Int × Int)) × (List (Int × Int)))=>if (!v16.1) = true then none else some (.go (v16.2.1,v16.2.2.1,v16.2.2.2))) (fun (v8 : (List (Int × Int)) × (List (Int × Int)) × (List (Int × Int)))=>some (.go (v8.1,v8.2.1,v8.2.2))) a0.Subs 0 ([],[],[]))) fun (v17 : (List (Int × Int)) × (List (Int × Int)) × (List (Int × Int)))=>some (v2.2,v17.1,v17.2.1,v17.2.2)) fun (v18 : (List (Int × (List ApiBlock))) × (List (Int × Int)) × (List (Int × Int)) × (List (Int × Int)))=>bindO (bindO (guardO (okIdx a0.Main) ( rangeX (fun (i7 : Nat) (e7 : ApiBlock) (v19 : Int × Int)=>bindO (sp_Call e7) fun (y6 : Int × Int × Bool × Int)=>bindO (if (!y6.2.2.1) = true then some (v19.1,IntKind.i64.wrap (v19.2 + 1)) else some (mmI true v19.1 (IntKind.i64.wrap (1 + ((mget v18.2.2.1 y6.1).getD 0))),IntKind.i64.wrap (v19.2 + (mmI false (IntKind.i64.wrap (y6.2.1 * ((mget v18.2.2.2 y6.1).getD 0))) 20001)))) fun (v20 : Int × Int)=>some (.go (v20.1,mmI false v20.2 20001))) (fun (v19 : Int × Int)=>some (v19.1,v19.2)) a0.Main 0 (0,0))) fun (v21 : Int × Int)=>some (v21.1,v21.2)) fun (v22 : Int × Int)=>if ((decide (v22.1 > 8)) || (decide (v22.2 > 20000))) = true then none else some (v22.2,v18.1,v18.2.1,v18.2.2.1,v18.2.2.2)) fun (v23 : Int × (List (Int × (List ApiBlock))) × (List (Int × Int)) × (List (Int × Int)) × (List (Int × Int)))=>bindO (bindO (guardO (okIdx a0.Main) ( rangeX (fun (i8 : Nat) (e8 : ApiBlock) (v24 : (List ApiBlock) × (List (Int × (List ApiBlock))))=>bindO (bindO (sp_Call e8) fun (y7 : Int × Int × Bool × Int)=>if (!y7.2.2.1) = true then guardO (okLen (v24.1.length + 1)) ( some (v24.1 ++ [e8],v24.2)) else bindO (if (!((mget v24.2 y7.1).isSome)) = true then bindO (bindO (guardO (okIdx ((mget v23.2.1 y7.1).getD [])) ( rangeX (fun (i9 : Nat) (e9 : ApiBlock) (v25 : (List ApiBlock))=>bindO (bindO (sp_Call e9) fun (y8 : Int × Int × Bool × Int)=>if (!y8.2.2.1) = true then guardO (okLen (v25.length + 1)) ( some (v25 ++ [e9])) else if (!((mget v24.2 y8.1).isSome)) = true then none else if ((((mget v24.2 y8.1).getD []).length : Int) == 0) = true then some v25 else loopX (fun (v26 : (List ApiBlock) × Int)=>if (decide (v26.2 < y8.2.1)) = true then guardO (okLen (v26.1.length + ((mget v24.2 y8.1).getD []).length)) ( some (.go (v26.1 ++ ((mget v24.2 y8.1).getD []),IntKind.i64.wrap (v26.2 + 1)))) else some (.ret v26.1)) fuel (v25,0)) fun (v27 : (List ApiBlock))=>some (.go v27)) (fun (v25 : (List ApiBlock))=>some v25) ((mget v23.2.1 y7.1).getD []) 0 [])) fun (v28 : (List ApiBlock))=>some v28) fun (v29 : (List ApiBlock))=>some (v29,mput v24.2 y7.1 v29) else some ((mget v24.2 y7.1).getD [],v24.2)) fun (v30 : (List ApiBlock) × (List (Int × (List ApiBlock))))=>if ((v30.1.length : Int) == 0) = true then some (v24.1,v30.2) else loopX (fun (v31 : (List ApiBlock) × Int)=>if (decide (v31.2 < y7.2.1)) = true then guardO (okLen (v31.1.length + v30.1.length)) ( some (.go (v31.1 ++ v30.1,IntKind.i64.wrap (v31.2 + 1)))) else some (.ret (v31.1,v30.2))) fuel (v24.1,0)) fun (v32 : (List ApiBlock) × (List (Int × (List ApiBlock))))=>some (.go (v32.1,v32.2))) (fun (v24 : (List ApiBlock) × (List (Int × (List ApiBlock))))=>some (v24.1,v24.2)) a0.Main 0 ([],[]))) fun (v33 : (List ApiBlock) × (List (Int × (List ApiBlock))))=>some (v33.1,v33.2)) fun (v34 : (List ApiBlock) × (List (Int × (List ApiBlock))))=>bindO (guardO (okIdx v34.1) ( rangeX (fun (i10 : Nat) (e10 : ApiBlock) (v35 : (List ApiBlock))=>bindO (slices_Clone_api_Word_api_Word e10.Words) fun (y9 : (List ApiWord))=>guardO (okLen (v35.length + 1)) ( some (.go (v35 ++ [ApiBlock.mk e10.Skip y9 e10.Comment])))) (fun (v35 : (List ApiBlock))=>some v35) v34.1 0 [])) fun (v36 : (List ApiBlock))=>some (v36,0)
theorem sp_Expand_spec {a0 : SubprogramProgram} {y : (List ApiBlock) × Int} (h : sp_Expand a0 = some y) : Spec gP 8 [.agg [.d (.list (List.map encApiBlock a0.Main)),.d (.list (List.map encSubprogramSub a0.Subs))]] (.tuple [.d (.list (List.map encApiBlock y.1)),.d (.int .i64 y.2)]) := by
 refine spec_mir Tryz.func8 rfl (by kernel_rfl) (by kernel_rfl) (fun y : (List ApiBlock) × Int=>.tuple [.d (.list (List.map encApiBlock y.1)),.d (.int .i64 y.2)]) ?_ h
 unfold sp_Expand
 simp only [List.replicate,List.length,nS,nA,Tryz.ntmps8,SV]
 refine .sR fun e h=>?_
 simp only [seval,EME,eInt,eList,lit_pn]
 refine mU e (.seqK (.bind fun v23 h1=>.region fun e h=>?_)) h
 simp only [seval,EME,ag_38,sz_38,eInt,eList,lit_pn]
 refine SpecS.inl Tryz.func31 rfl (by kernel_rfl) (by kernel_rfl) (fun v23 : Int × (List (Int × (List ApiBlock))) × (List (Int × Int)) × (List (Int × Int)) × (List (Int × Int))=>.tuple [.ptr 8 0,.d (.int .i64 v23.1),.d (.int .i64 0)]) (fun v23=>⟨[[.d (.list (List.map encApiBlock a0.Main)),.d (.list (List.map encSubprogramSub a0.Subs))],[.d (.list (List.map encApiBlock a0.Main)),.d (.list (List.map encSubprogramSub a0.Subs))],[.d (.list (List.map encApiBlock a0.Main)),.d (.list (List.map encSubprogramSub a0.Subs))],[.mapc .i64 (List.map (ekv (evL encApiBlock)) v23.2.1)],[.mapc .i64 (List.map (ekv (evI .i64)) v23.2.2.1)],[.mapc .i64 (List.map (ekv (evI .i64)) v23.2.2.2.1)],[.mapc .i64 (List.map (ekv (evI .i64)) v23.2.2.2.2)],[.mapc .i64 (List.map (ekv (evL encApiBlock)) [])],[.mp 3,.mp 4,.mp 5,.mp 6,.mp 7]],[]⟩) h1 rfl ?_ ?_
 simp only [List.replicate,List.length,nS,nA,Tryz.ntmps31,SV]
 refine .sR fun e h=>?_
 simp only [seval,EME,eInt,eList,lit_pn]
 refine mU e (.seqK (.bind fun v18 h2=>.region fun e h=>?_)) h
 simp only [seval,EME,ag_38,sz_38,eInt,eList,lit_pn]
 refine SpecS.inl Tryz.func59 rfl (by kernel_rfl) (by kernel_rfl) (fun v18 : (List (Int × (List ApiBlock))) × (List (Int × Int)) × (List (Int × Int)) × (List (Int × Int))=>.tuple [.ptr 8 0,.d (.int .i64 0)]) (fun v18=>⟨[[.d (.list (List.map encApiBlock a0.Main)),.d (.list (List.map encSubprogramSub a0.Subs))],[.d (.list (List.map encApiBlock a0.Main)),.d (.list (List.map encSubprogramSub a0.Subs))],[.d (.list (List.map encApiBlock a0.Main)),.d (.list (List.map encSubprogramSub a0.Subs))],[.mapc .i64 (List.map (ekv (evL encApiBlock)) v18.1)],[.mapc .i64 (List.map (ekv (evI .i64)) v18.2.1)],[.mapc .i64 (List.map (ekv (evI .i64)) v18.2.2.1)],[.mapc .i64 (List.map (ekv (evI .i64)) v18.2.2.2)],[.mapc .i64 (List.map (ekv (evL encApiBlock)) [])],[.mp 3,.mp 4,.mp 5,.mp 6,.mp 7]],[]⟩) h2 rfl ?_ ?_
 simp only [List.replicate,List.length,nS,nA,Tryz.ntmps59,SV]
 refine .sR fun e h=>?_
 simp only [seval,EME,eInt,eList,lit_pn]
 refine mU e (.seqK (.seqK (.bind fun y1 h3=>.region fun e h=>?_))) h
 simp only [seval,EME,ag_38,sz_38,eInt,eList,lit_pn]
 refine SpecS.by (sp_proper_spec h3) (by simp only [seval,FME,eInt,eList,lit_pn]) ?_
 simp only [seval,EME,eInt,eList,lit_pn]
 refine mU e (.cond rfl (fun h4=>?_) (fun h4=>?_)) h
 exact Mir.no
 refine .skip (Mir.toK (.seqK (.regionW fun e h=>regW.alt 0 rfl ?_)))
 simp only [seval,EME,w_none,w_eq,eInt,eList,lit_pn]
 refine alt_makeMap .i64 (regW.alt 0 rfl ?_)
 simp only [seval,EME,w_none,w_eq,xMN,eInt,eList,lit_pn]
 refine alt_makeMap .i64 (regW.alt 0 rfl ?_)
 simp only [seval,EME,w_none,w_eq,xMN,eInt,eList,lit_pn]
 refine alt_makeMap .i64 (regW.alt 0 rfl ?_)
 simp only [seval,EME,w_none,w_eq,xMN,eInt,eList,lit_pn]
 refine alt_makeMap .i64 (regW.alt 0 rfl ?_)
 simp only [seval,EME,w_none,w_eq,xMN,eInt,eList,lit_pn]
 refine alt_makeMap .i64 (regW.of ?_)
 simp only [seval,EME,w_none,w_eq,xMN,zero_119,pl_119,eInt,eList,lit_pn]
 refine mU e (.seqK (.regionW fun e h=>regW.alt 2 rfl ?_)) h
 simp only [seval,EME,w_none,w_eq,fld_38_0,sz_31,ag_31,eInt,eList,lit_pn]
 refine alt_litOwn (es := List.map (eList encApiBlock) [a0.Main]) app_142 (by simp only [seval,EME,und_142,sz_31,zero_31,(oL 1),eInt,eList,lit_pn]) (by decide) (regW.of ?_)
 simp only [seval,EME,w_none,w_eq,und_142,sz_31,zero_31,(oL 1),eInt,eList,lit_pn]
 refine mU e (.seqK (.sR fun e h=>?_)) h
 simp only [seval,EME,fld_38_1,sz_36,ag_36,und_36,eInt,eList,lit_pn]
 refine mU e (Mir.joinO (fun v2 : (List (List ApiBlock)) × (List (Int × (List ApiBlock)))=>([U,.ptr 2 0,U,U,.ptr 8 0,.own 0 (List.map (eList encApiBlock) v2.1)] ++ us 104)) (fun v2=>⟨[[.d (.list (List.map encApiBlock a0.Main)),.d (.list (List.map encSubprogramSub a0.Subs))],[.d (.list (List.map encApiBlock a0.Main)),.d (.list (List.map encSubprogramSub a0.Subs))],[.d (.list (List.map encApiBlock a0.Main)),.d (.list (List.map encSubprogramSub a0.Subs))],[.mapc .i64 (List.map (ekv (evL encApiBlock)) v2.2)],[.mapc .i64 (List.map (ekv (evI .i64)) [])],[.mapc .i64 (List.map (ekv (evI .i64)) [])],[.mapc .i64 (List.map (ekv (evI .i64)) [])],[.mapc .i64 (List.map (ekv (evL encApiBlock)) [])],[.mp 3,.mp 4,.mp 5,.mp 6,.mp 7]],[(31,v2.1.length)]⟩) (fun _=>rfl) ?_ ?_) h
 refine .block (.guard fun q1=>Mir.range (fun (i1 : Nat) (v1 : (List (List ApiBlock)) × (List (Int × (List ApiBlock))))=>([U,.ptr 2 0,U,U,.ptr 8 0,.own 0 (List.map (eList encApiBlock) v1.1),U,U,U,U,U,U,U,U,U,U,U,U,U,U,U,U,U,U,U,U,U,U,U,U,U,U,U,U,U,.d (.list (List.map encSubprogramSub a0.Subs)),.d (.int .i64 (a0.Subs.length : Int)),.d (.int .i64 (i1 : Int))] ++ us 72)) (fun i1 v1=>⟨[[.d (.list (List.map encApiBlock a0.Main)),.d (.list (List.map encSubprogramSub a0.Subs))],[.d (.list (List.map encApiBlock a0.Main)),.d (.list (List.map encSubprogramSub a0.Subs))],[.d (.list (List.map encApiBlock a0.Main)),.d (.list (List.map encSubprogramSub a0.Subs))],[.mapc .i64 (List.map (ekv (evL encApiBlock)) v1.2)],[.mapc .i64 (List.map (ekv (evI .i64)) [])],[.mapc .i64 (List.map (ekv (evI .i64)) [])],[.mapc .i64 (List.map (ekv (evI .i64)) [])],[.mapc .i64 (List.map (ekv (evL encApiBlock)) [])],[.mp 3,.mp 4,.mp 5,.mp 6,.mp 7]],[(31,v1.1.length)]⟩) q1 (fun _ _=>rfl) (by simp only [seval,FME,eInt,eList,lit_pn,zNI]) (by simp only [seval,FME,eInt,eList,lit_pn,zNI]) ?_ ?_)
 intro i1 e1 v1 q2
 refine .sR fun e h=>?_
 simp only [seval,EME,q2,eInt,eList,lit_pn]
 refine mU e (.seqK (.condT rfl (.skip (Mir.toK (.seqK (.block (.sR fun e h=>?_))))))) h
 simp only [seval,EME,und_36,sz_75,q2,Int.toNat_natCast,ag_75,zero_75,eInt,eList,lit_pn]
 refine mU e (.seqK (.regionT 8 [] (by kernel_rfl) fun e h=>?_)) h
 simp only [seval,EME,w_none,w_eq,SB,fld_119_0,sz_115,ag_115,fld_75_0,sz_2,ag_2,fld_75_1,sz_31,ag_31,eInt,eList,lit_pn]
 refine regW.alt 0 rfl ?_
 simp only [seval,EME,w_none,w_eq,eInt,eList,lit_pn]
 refine alt_mapUpdate (et := 31) rfl rfl rfl rfl (by simp only [mapT,und_115,und_2]) (regW.of ?_)
 simp only [seval,EME,w_none,w_eq,mp_L,eInt,eList,lit_pn]
 refine mU e (.guard fun q3=>.region fun e h=>?_) h
 simp only [seval,EME,fld_75_1,sz_31,ag_31,und_142,zero_31,(oL 1),app_142,al_eList,q3,eInt,eList,lit_pn]
 refine mU e (.region fun e h=>?_) h
 simp only [seval,EME,eInt,eList,lit_pn]
 cases h
 simp only [seval,FME,eInt,eList,lit_pn,Tryz.results59,q2]
 intro v1 q4
 refine .sR fun e h=>?_
 simp only [seval,EME,q4,eInt,eList,lit_pn]
 refine mU e (.seqK (.condF rfl (.exit fun e h=>?_))) h
 cases h
 simp only [seval,FME,eInt,eList,lit_pn,Tryz.results59]
 intro v2
 refine Mir.toK (.sR fun e h=>?_)
 simp only [seval,EME,eInt,eList,lit_pn]
 refine mU e (.seqK (.seqK (.bind fun y2 h5=>.region fun e h=>?_))) h
 simp only [seval,EME,eInt,eList,lit_pn]
 refine SpecS.by (slices_Concat_api_Block_api_Block_spec h5) (by simp only [seval,FME,eInt,eList,lit_pn]) ?_
 simp only [seval,EME,und_31,eInt,eList,lit_pn]
 refine mU e (.gh [.slot 8 2] rfl (Mir.join (fun v5 : (List Int)=>([U,.ptr 2 0,U,U,.ptr 8 0,U,U,U,.own 1 (List.map (eInt .i64) v5)] ++ us 101)) (fun v5=>⟨[[.d (.list (List.map encApiBlock a0.Main)),.d (.list (List.map encSubprogramSub a0.Subs))],[.d (.list (List.map encApiBlock a0.Main)),.d (.list (List.map encSubprogramSub a0.Subs))],[.d (.list (List.map encApiBlock a0.Main)),.d (.list (List.map encSubprogramSub a0.Subs))],[.mapc .i64 (List.map (ekv (evL encApiBlock)) v2.2)],[.mapc .i64 (List.map (ekv (evI .i64)) [])],[.mapc .i64 (List.map (ekv (evI .i64)) [])],[.mapc .i64 (List.map (ekv (evI .i64)) [])],[.mapc .i64 (List.map (ekv (evL encApiBlock)) [])],[.mp 3,.mp 4,.mp 5,.mp 6,.mp 7]],[(31,v2.1.length),(2,v5.length)]⟩) (fun _=>rfl) ?_ ?_)) h
 refine .block (.guard fun q5=>Mir.range (fun (i2 : Nat) (v3 : (List Int))=>([U,.ptr 2 0,U,U,.ptr 8 0,U,U,U,.own 1 (List.map (eInt .i64) v3),U,U,U,U,U,U,U,U,U,U,U,U,U,U,U,U,U,U,U,U,U,U,U,U,U,U,U,U,U,U,U,U,U,U,U,U,U,U,U,U,U,U,U,U,U,U,U,.d (.list (List.map encApiBlock y2)),.d (.int .i64 (y2.length : Int)),.d (.int .i64 (i2 : Int))] ++ us 51)) (fun i2 v3=>⟨[[.d (.list (List.map encApiBlock a0.Main)),.d (.list (List.map encSubprogramSub a0.Subs))],[.d (.list (List.map encApiBlock a0.Main)),.d (.list (List.map encSubprogramSub a0.Subs))],[.d (.list (List.map encApiBlock a0.Main)),.d (.list (List.map encSubprogramSub a0.Subs))],[.mapc .i64 (List.map (ekv (evL encApiBlock)) v2.2)],[.mapc .i64 (List.map (ekv (evI .i64)) [])],[.mapc .i64 (List.map (ekv (evI .i64)) [])],[.mapc .i64 (List.map (ekv (evI .i64)) [])],[.mapc .i64 (List.map (ekv (evL encApiBlock)) [])],[.mp 3,.mp 4,.mp 5,.mp 6,.mp 7]],[(31,v2.1.length),(2,v3.length)]⟩) q5 (fun _ _=>rfl) (by simp only [seval,FME,eInt,eList,lit_pn,zNI]) (by simp only [seval,FME,eInt,eList,lit_pn,zNI]) ?_ ?_)
 intro i2 e2 v3 q6
 refine .sR fun e h=>?_
 simp only [seval,EME,q6,eInt,eList,lit_pn]
 refine mU e (.seqK (.condT rfl (.skip (Mir.toK (.seqK (Mir.join (fun v4 : (List Int)=>([U,.ptr 2 0,U,U,.ptr 8 0,U,U,U,.own 1 (List.map (eInt .i64) v4),U,U,U,U,U,U,U,U,U,U,U,U,U,U,U,U,U,U,U,U,U,U,U,U,U,U,U,U,U,U,U,U,U,U,U,U,U,U,U,U,U,U,U,U,U,U,U,.d (.list (List.map encApiBlock y2)),.d (.int .i64 (y2.length : Int)),.d (.int .i64 (i2 : Int))] ++ us 51)) (fun v4=>⟨[[.d (.list (List.map encApiBlock a0.Main)),.d (.list (List.map encSubprogramSub a0.Subs))],[.d (.list (List.map encApiBlock a0.Main)),.d (.list (List.map encSubprogramSub a0.Subs))],[.d (.list (List.map encApiBlock a0.Main)),.d (.list (List.map encSubprogramSub a0.Subs))],[.mapc .i64 (List.map (ekv (evL encApiBlock)) v2.2)],[.mapc .i64 (List.map (ekv (evI .i64)) [])],[.mapc .i64 (List.map (ekv (evI .i64)) [])],[.mapc .i64 (List.map (ekv (evI .i64)) [])],[.mapc .i64 (List.map (ekv (evL encApiBlock)) [])],[.mp 3,.mp 4,.mp 5,.mp 6,.mp 7]],[(31,v2.1.length),(2,v4.length)]⟩) (fun _=>rfl) ?_ ?_)))))) h
 refine .block (.sR fun e h=>?_)
 simp only [seval,EME,und_31,sz_48,q6,Int.toNat_natCast,ag_48,zero_48,eInt,eList,lit_pn]
 refine mU e (.seqK (.bind fun y3 h6=>.region fun e h=>?_)) h
 simp only [seval,EME,ag_48,sz_48,eInt,eList,lit_pn]
 refine SpecS.by (sp_Call_spec h6) (by simp only [seval,FME,eInt,eList,lit_pn]) ?_
 simp only [seval,EME,eInt,eList,lit_pn]
 refine mU e (.seqK (.sR fun e h=>?_)) h
 simp only [seval,EME,eInt,eList,lit_pn]
 refine mU e (.cond rfl (fun h7=>?_) (fun h7=>?_)) h
 exact Mir.no
 refine .skip (Mir.toK (.sR fun e h=>?_))
 simp only [seval,EME,eInt,eList,lit_pn]
 refine mU e (.cond rfl (fun h8=>?_) (fun h8=>?_)) h
 refine .guard fun q7=>.region fun e h=>?_
 simp only [seval,EME,und_93,sz_2,zero_2,(oL 1),app_93,al_eInt,q7,eInt,eList,lit_pn]
 cases h
 simp only [seval,FME,eInt,eList,lit_pn,Tryz.results59]
 refine .skip fun e h=>?_
 cases h
 simp only [seval,FME,eInt,eList,lit_pn,Tryz.results59]
 intro v4
 refine Mir.toK (.region fun e h=>?_)
 simp only [seval,EME,eInt,eList,lit_pn]
 cases h
 simp only [seval,FME,eInt,eList,lit_pn,Tryz.results59,q6]
 intro v3 q8
 refine .sR fun e h=>?_
 simp only [seval,EME,q8,eInt,eList,lit_pn]
 refine mU e (.seqK (.condF rfl (.exit fun e h=>?_))) h
 cases h
 simp only [seval,FME,eInt,eList,lit_pn,Tryz.results59]
 intro v5
 refine Mir.toK (.seqK (.sR fun e h=>?_))
 simp only [seval,EME,und_93,eInt,eList,lit_pn]
 refine mU e (Mir.join (fun v7 : Unit=>([U,.ptr 2 0,U,U,.ptr 8 0] ++ us 105)) (fun v7=>⟨[[.d (.list (List.map encApiBlock a0.Main)),.d (.list (List.map encSubprogramSub a0.Subs))],[.d (.list (List.map encApiBlock a0.Main)),.d (.list (List.map encSubprogramSub a0.Subs))],[.d (.list (List.map encApiBlock a0.Main)),.d (.list (List.map encSubprogramSub a0.Subs))],[.mapc .i64 (List.map (ekv (evL encApiBlock)) v2.2)],[.mapc .i64 (List.map (ekv (evI .i64)) [])],[.mapc .i64 (List.map (ekv (evI .i64)) [])],[.mapc .i64 (List.map (ekv (evI .i64)) [])],[.mapc .i64 (List.map (ekv (evL encApiBlock)) [])],[.mp 3,.mp 4,.mp 5,.mp 6,.mp 7]],[(31,v2.1.length),(2,v5.length)]⟩) (fun _=>rfl) ?_ ?_) h
 refine .block (.guard fun q9=>Mir.range (fun (i3 : Nat) (v6 : Unit)=>([U,.ptr 2 0,U,U,.ptr 8 0,U,U,U,U,U,U,U,U,U,U,U,U,U,U,U,U,U,U,U,U,U,U,U,U,U,U,U,U,U,U,U,U,U,U,U,U,U,U,U,U,U,U,U,U,U,U,U,U,U,U,U,U,U,U,U,U,U,U,U,U,U,U,U,U,U,U,U,U,U,U,U,U,U,.own 1 (List.map (eInt .i64) v5),.d (.int .i64 (v5.length : Int)),.d (.int .i64 (i3 : Int))] ++ us 29)) (fun i3 v6=>⟨[[.d (.list (List.map encApiBlock a0.Main)),.d (.list (List.map encSubprogramSub a0.Subs))],[.d (.list (List.map encApiBlock a0.Main)),.d (.list (List.map encSubprogramSub a0.Subs))],[.d (.list (List.map encApiBlock a0.Main)),.d (.list (List.map encSubprogramSub a0.Subs))],[.mapc .i64 (List.map (ekv (evL encApiBlock)) v2.2)],[.mapc .i64 (List.map (ekv (evI .i64)) [])],[.mapc .i64 (List.map (ekv (evI .i64)) [])],[.mapc .i64 (List.map (ekv (evI .i64)) [])],[.mapc .i64 (List.map (ekv (evL encApiBlock)) [])],[.mp 3,.mp 4,.mp 5,.mp 6,.mp 7]],[(31,v2.1.length),(2,v5.length)]⟩) q9 (fun _ _=>rfl) (by simp only [seval,FME,eInt,eList,lit_pn,zNI]) (by simp only [seval,FME,eInt,eList,lit_pn,zNI]) ?_ ?_)
 intro i3 e3 v6 q10
 refine .sR fun e h=>?_
 simp only [seval,EME,q10,eInt,eList,lit_pn]
 refine mU e (.seqK (.condT rfl (.skip (Mir.toK (.seqK (.block (.sR fun e h=>?_))))))) h
 simp only [seval,EME,und_93,sz_2,q10,Int.toNat_natCast,ag_2,eInt,eList,lit_pn]
 refine mU e (.seqK (.regionW fun e h=>regW.alt 5 rfl ?_)) h
 simp only [seval,EME,w_none,w_eq,fld_119_0,sz_115,ag_115,eInt,eList,lit_pn]
 refine alt_lookupOk rfl rfl rfl (by simp only [mapT,und_115,und_2]) zero_31 rfl (regW.of ?_)
 simp only [seval,EME,w_none,w_eq,mg_L,mis_kv,eInt,eList,lit_pn]
 refine mU e (.sR fun e h=>?_) h
 simp only [seval,EME,eInt,eList,lit_pn]
 refine mU e (.cond rfl (fun h9=>?_) (fun h9=>?_)) h
 exact Mir.no
 refine .skip (Mir.toB (Mir.toK (.region fun e h=>?_)))
 simp only [seval,EME,eInt,eList,lit_pn]
 cases h
 simp only [seval,FME,eInt,eList,lit_pn,Tryz.results59,q10]
 intro v6 q11
 refine .sR fun e h=>?_
 simp only [seval,EME,q11,eInt,eList,lit_pn]
 refine mU e (.seqK (.condF rfl (.exit fun e h=>?_))) h
 cases h
 simp only [seval,FME,eInt,eList,lit_pn,Tryz.results59]
 intro v7
 refine Mir.toK (.seqK (.sR fun e h=>?_))
 simp only [seval,EME,fld_38_1,sz_36,ag_36,und_36,eInt,eList,lit_pn]
 refine mU e (Mir.join (fun v17 : (List (Int × Int)) × (List (Int × Int)) × (List (Int × Int))=>([U,U,U,U,.ptr 8 0] ++ us 105)) (fun v17=>⟨[[.d (.list (List.map encApiBlock a0.Main)),.d (.list (List.map encSubprogramSub a0.Subs))],[.d (.list (List.map encApiBlock a0.Main)),.d (.list (List.map encSubprogramSub a0.Subs))],[.d (.list (List.map encApiBlock a0.Main)),.d (.list (List.map encSubprogramSub a0.Subs))],[.mapc .i64 (List.map (ekv (evL encApiBlock)) v2.2)],[.mapc .i64 (List.map (ekv (evI .i64)) v17.1)],[.mapc .i64 (List.map (ekv (evI .i64)) v17.2.1)],[.mapc .i64 (List.map (ekv (evI .i64)) v17.2.2)],[.mapc .i64 (List.map (ekv (evL encApiBlock)) [])],[.mp 3,.mp 4,.mp 5,.mp 6,.mp 7]],[(31,v2.1.length),(2,v5.length)]⟩) (fun _=>rfl) ?_ ?_) h
 refine .block (.guard fun q12=>Mir.range (fun (i4 : Nat) (v8 : (List (Int × Int)) × (List (Int × Int)) × (List (Int × Int)))=>([U,U,U,U,.ptr 8 0,U,U,U,U,U,U,U,U,U,U,U,U,U,U,U,U,U,U,U,U,U,U,U,U,U,U,U,U,U,U,U,U,U,U,U,U,U,U,U,U,U,U,U,U,U,U,U,U,U,U,U,U,U,U,U,U,U,U,U,U,U,U,U,U,U,U,U,U,U,U,U,U,U,U,U,U,U,U,U,U,U,U,U,U,U,U,U,U,U,U,U,U,.d (.list (List.map encSubprogramSub a0.Subs)),.d (.int .i64 (a0.Subs.length : Int)),.d (.int .i64 (i4 : Int))] ++ us 10)) (fun i4 v8=>⟨[[.d (.list (List.map encApiBlock a0.Main)),.d (.list (List.map encSubprogramSub a0.Subs))],[.d (.list (List.map encApiBlock a0.Main)),.d (.list (List.map encSubprogramSub a0.Subs))],[.d (.list (List.map encApiBlock a0.Main)),.d (.list (List.map encSubprogramSub a0.Subs))],[.mapc .i64 (List.map (ekv (evL encApiBlock)) v2.2)],[.mapc .i64 (List.map (ekv (evI .i64)) v8.1)],[.mapc .i64 (List.map (ekv (evI .i64)) v8.2.1)],[.mapc .i64 (List.map (ekv (evI .i64)) v8.2.2)],[.mapc .i64 (List.map (ekv (evL encApiBlock)) [])],[.mp 3,.mp 4,.mp 5,.mp 6,.mp 7]],[(31,v2.1.length),(2,v5.length)]⟩) q12 (fun _ _=>rfl) (by simp only [seval,FME,eInt,eList,lit_pn,zNI]) (by simp only [seval,FME,eInt,eList,lit_pn,zNI]) ?_ ?_)
 intro i4 e4 v8 q13
 refine .sR fun e h=>?_
 simp only [seval,EME,q13,eInt,eList,lit_pn]
 refine mU e (.seqK (.condT rfl (.skip (Mir.toK (.seqK (.block (.sR fun e h=>?_))))))) h
 simp only [seval,EME,und_36,sz_75,q13,Int.toNat_natCast,ag_75,zero_75,eInt,eList,lit_pn]
 refine mU e (.seqK (.bind fun v16 h10=>.region fun e h=>?_)) h
 simp only [seval,EME,fld_75_0,sz_2,ag_2,eInt,eList,lit_pn]
 refine SpecS.inl Tryz.func82 rfl (by kernel_rfl) (by kernel_rfl) (fun v16 : Bool × (List (Int × Int)) × (List (Int × Int)) × (List (Int × Int))=>.d (.bool v16.1)) (fun v16=>⟨[[.d (.list (List.map encApiBlock a0.Main)),.d (.list (List.map encSubprogramSub a0.Subs))],[.d (.list (List.map encApiBlock a0.Main)),.d (.list (List.map encSubprogramSub a0.Subs))],[.d (.list (List.map encApiBlock a0.Main)),.d (.list (List.map encSubprogramSub a0.Subs))],[.mapc .i64 (List.map (ekv (evL encApiBlock)) v2.2)],[.mapc .i64 (List.map (ekv (evI .i64)) v16.2.1)],[.mapc .i64 (List.map (ekv (evI .i64)) v16.2.2.1)],[.mapc .i64 (List.map (ekv (evI .i64)) v16.2.2.2)],[.mapc .i64 (List.map (ekv (evL encApiBlock)) [])],[.mp 3,.mp 4,.mp 5,.mp 6,.mp 7],[.d (.int .i64 e4.Number),.d (.list (List.map encApiBlock e4.Blocks))]],[(31,v2.1.length),(2,v5.length)]⟩) h10 rfl ?_ ?_
 simp only [List.replicate,List.length,nS,nA,Tryz.ntmps82,SV]
 refine .sR fun e h=>?_
 simp only [seval,EME,eInt,eList,lit_pn]
 refine mU e (.seqK (.seqK (.regionW fun e h=>regW.alt 5 rfl ?_))) h
 simp only [seval,EME,w_none,w_eq,fld_119_1,sz_116,ag_116,eInt,eList,lit_pn]
 refine alt_lookup rfl rfl rfl (by simp only [mapT,und_116,und_2]) zero_3 rfl (regW.of ?_)
 simp only [seval,EME,w_none,w_eq,mg_I,eInt,eList,lit_pn]
 refine mU e (.block (.sR fun e h=>?_)) h
 simp only [seval,EME,eInt,eList,lit_pn]
 refine mU e (.cond rfl (fun h11=>?_) (fun h11=>?_)) h
 refine .sR fun e h=>?_
 simp only [seval,EME,eInt,eList,lit_pn]
 refine mU e (.ret fun e h=>?_) h
 cases h
 simp only [seval,FME,eInt,eList,lit_pn,Tryz.results82]
 refine .sR fun e h=>?_
 simp only [seval,EME,eInt,eList,lit_pn]
 refine mU e (.cond rfl (fun h12=>?_) (fun h12=>?_)) h
 refine .sR fun e h=>?_
 simp only [seval,EME,eInt,eList,lit_pn]
 refine mU e (.ret fun e h=>?_) h
 cases h
 simp only [seval,FME,eInt,eList,lit_pn,Tryz.results82]
 refine .skip (Mir.toB (Mir.toK (.seqK (.regionW fun e h=>regW.alt 5 rfl ?_))))
 simp only [seval,EME,w_none,w_eq,fld_119_1,sz_116,ag_116,eInt,eList,lit_pn]
 refine alt_mapUpdate (et := 3) rfl rfl rfl rfl (by simp only [mapT,und_116,und_2]) (regW.of ?_)
 simp only [seval,EME,w_none,w_eq,mp_I,eInt,eList,lit_pn]
 refine mU e (.seqK (.seqK (.regionW fun e h=>regW.alt 5 rfl ?_))) h
 simp only [seval,EME,w_none,w_eq,fld_119_0,sz_115,ag_115,eInt,eList,lit_pn]
 refine alt_lookup rfl rfl rfl (by simp only [mapT,und_115,und_2]) zero_31 rfl (regW.of ?_)
 simp only [seval,EME,w_none,w_eq,mg_L,und_31,eInt,eList,lit_pn]
 refine mU e (Mir.joinO (fun v11 : Unit=>([.ptr 8 0,.d (.int .i64 e4.Number)] ++ us 76)) (fun v11=>⟨[[.d (.list (List.map encApiBlock a0.Main)),.d (.list (List.map encSubprogramSub a0.Subs))],[.d (.list (List.map encApiBlock a0.Main)),.d (.list (List.map encSubprogramSub a0.Subs))],[.d (.list (List.map encApiBlock a0.Main)),.d (.list (List.map encSubprogramSub a0.Subs))],[.mapc .i64 (List.map (ekv (evL encApiBlock)) v2.2)],[.mapc .i64 (List.map (ekv (evI .i64)) (mput v8.1 e4.Number 1))],[.mapc .i64 (List.map (ekv (evI .i64)) v8.2.1)],[.mapc .i64 (List.map (ekv (evI .i64)) v8.2.2)],[.mapc .i64 (List.map (ekv (evL encApiBlock)) [])],[.mp 3,.mp 4,.mp 5,.mp 6,.mp 7],[.d (.int .i64 e4.Number),.d (.list (List.map encApiBlock e4.Blocks))]],[(31,v2.1.length),(2,v5.length)]⟩) (fun _=>rfl) ?_ ?_) h
 refine .block (.guard fun q14=>Mir.range (fun (i5 : Nat) (v9 : Unit)=>([.ptr 8 0,.d (.int .i64 e4.Number),U,U,U,U,U,U,U,U,U,U,U,U,U,U,U,U,U,U,U,U,U,U,U,U,U,U,U,U,U,.d (.list (List.map encApiBlock ((mget v2.2 e4.Number).getD []))),.d (.int .i64 (((mget v2.2 e4.Number).getD []).length : Int)),.d (.int .i64 (i5 : Int))] ++ us 44)) (fun i5 v9=>⟨[[.d (.list (List.map encApiBlock a0.Main)),.d (.list (List.map encSubprogramSub a0.Subs))],[.d (.list (List.map encApiBlock a0.Main)),.d (.list (List.map encSubprogramSub a0.Subs))],[.d (.list (List.map encApiBlock a0.Main)),.d (.list (List.map encSubprogramSub a0.Subs))],[.mapc .i64 (List.map (ekv (evL encApiBlock)) v2.2)],[.mapc .i64 (List.map (ekv (evI .i64)) (mput v8.1 e4.Number 1))],[.mapc .i64 (List.map (ekv (evI .i64)) v8.2.1)],[.mapc .i64 (List.map (ekv (evI .i64)) v8.2.2)],[.mapc .i64 (List.map (ekv (evL encApiBlock)) [])],[.mp 3,.mp 4,.mp 5,.mp 6,.mp 7],[.d (.int .i64 e4.Number),.d (.list (List.map encApiBlock e4.Blocks))]],[(31,v2.1.length),(2,v5.length)]⟩) q14 (fun _ _=>rfl) (by simp only [seval,FME,eInt,eList,lit_pn,zNI]) (by simp only [seval,FME,eInt,eList,lit_pn,zNI]) ?_ ?_)
 intro i5 e5 v9 q15
 refine .sR fun e h=>?_
 simp only [seval,EME,q15,eInt,eList,lit_pn]
 refine mU e (.seqK (.condT rfl (.skip (Mir.toK (.seqK (.block (.sR fun e h=>?_))))))) h
 simp only [seval,EME,und_31,sz_48,q15,Int.toNat_natCast,ag_48,zero_48,eInt,eList,lit_pn]
 refine mU e (.seqK (.bind fun y4 h13=>.region fun e h=>?_)) h
 simp only [seval,EME,ag_48,sz_48,eInt,eList,lit_pn]
 refine SpecS.by (sp_Call_spec h13) (by simp only [seval,FME,eInt,eList,lit_pn]) ?_
 simp only [seval,EME,eInt,eList,lit_pn]
 refine mU e (.seqK (Mir.joinO (fun v10 : Unit=>([.ptr 8 0,.d (.int .i64 e4.Number),U,U,U,U,U,U,U,U,U,U,U,U,U,U,U,U,U,U,U,U,U,U,U,U,U,U,U,U,U,.d (.list (List.map encApiBlock ((mget v2.2 e4.Number).getD []))),.d (.int .i64 (((mget v2.2 e4.Number).getD []).length : Int)),.d (.int .i64 (i5 : Int)),U,U,U,U,U,U,U,U,U,U,U,U,U,U,U,U,.d (.bool false)] ++ us 27)) (fun v10=>⟨[[.d (.list (List.map encApiBlock a0.Main)),.d (.list (List.map encSubprogramSub a0.Subs))],[.d (.list (List.map encApiBlock a0.Main)),.d (.list (List.map encSubprogramSub a0.Subs))],[.d (.list (List.map encApiBlock a0.Main)),.d (.list (List.map encSubprogramSub a0.Subs))],[.mapc .i64 (List.map (ekv (evL encApiBlock)) v2.2)],[.mapc .i64 (List.map (ekv (evI .i64)) (mput v8.1 e4.Number 1))],[.mapc .i64 (List.map (ekv (evI .i64)) v8.2.1)],[.mapc .i64 (List.map (ekv (evI .i64)) v8.2.2)],[.mapc .i64 (List.map (ekv (evL encApiBlock)) [])],[.mp 3,.mp 4,.mp 5,.mp 6,.mp 7],[.d (.int .i64 e4.Number),.d (.list (List.map encApiBlock e4.Blocks))],[.d (.bool e5.Skip),.d (.list (List.map encApiWord e5.Words)),.d (.str e5.Comment)]],[(31,v2.1.length),(2,v5.length)]⟩) (fun _=>rfl) ?_ ?_)) h
 refine .ite (fun h14=>?_) (fun h14=>?_)
 exact Mir.no
 refine .region fun e h=>?_
 simp only [seval,EME,eInt,eList,lit_pn,h14]
 cases h
 simp only [seval,FME,eInt,eList,lit_pn,h14]
 intro v10
 refine Mir.toK (.condF rfl (.skip (Mir.toB (Mir.toK (.region fun e h=>?_)))))
 simp only [seval,EME,eInt,eList,lit_pn]
 cases h
 simp only [seval,FME,eInt,eList,lit_pn,Tryz.results82,q15]
 intro v9 q16
 refine .sR fun e h=>?_
 simp only [seval,EME,q16,eInt,eList,lit_pn]
 refine mU e (.seqK (.condF rfl (.exit fun e h=>?_))) h
 cases h
 simp only [seval,FME,eInt,eList,lit_pn,Tryz.results82]
 intro v11
 refine Mir.toK (.seqK (.regionW fun e h=>regW.alt 5 rfl ?_))
 simp only [seval,EME,w_none,w_eq,fld_119_1,sz_116,ag_116,eInt,eList,lit_pn]
 refine alt_mapUpdate (et := 3) rfl rfl rfl rfl (by simp only [mapT,und_116,und_2]) (regW.of ?_)
 simp only [seval,EME,w_none,w_eq,mp_I,eInt,eList,lit_pn]
 refine mU e (.seqK (.bind fun v15 h15=>Mir.regionA 0 [] [.ptr 8 0,.d (.int .i64 e4.Number),U,U,U,U,U,U,U,U,U,U,U,U,U,U,U,U,U,U,U,U,U,U,U,U,U,U,U,U,U,U,U,U,U,U,U,U,U,U,U,U,U,U,U,U,U,U,U,U,U,U,.ptr 8 0,.ptr 8 0,.ptr 8 1,.mp 4,.d (.int .i64 e4.Number),.tuple [.d (.int .i64 v15.1),.d (.int .i64 v15.2)],.ptr 8 0,.ptr 8 0,.ptr 8 2,.mp 5,.d (.int .i64 e4.Number),.ptr 8 0,.ptr 8 0,.ptr 8 3,.mp 6,.d (.int .i64 e4.Number),.ptr 8 0,.ptr 8 0,.ptr 8 0,.ptr 8 0,.mp 3,.d (.int .i64 e4.Number),.d (.list (List.map encApiBlock ((mget v2.2 e4.Number).getD []))),.tuple [.d (.int .i64 v15.1),.d (.int .i64 v15.2)],.d (.int .i64 v15.1),.d (.int .i64 v15.2)] ⟨[[.d (.list (List.map encApiBlock a0.Main)),.d (.list (List.map encSubprogramSub a0.Subs))],[.d (.list (List.map encApiBlock a0.Main)),.d (.list (List.map encSubprogramSub a0.Subs))],[.d (.list (List.map encApiBlock a0.Main)),.d (.list (List.map encSubprogramSub a0.Subs))],[.mapc .i64 (List.map (ekv (evL encApiBlock)) v2.2)],[.mapc .i64 (List.map (ekv (evI .i64)) (mput (mput v8.1 e4.Number 1) e4.Number 2))],[.mapc .i64 (List.map (ekv (evI .i64)) (mput v8.2.1 e4.Number v15.1))],[.mapc .i64 (List.map (ekv (evI .i64)) (mput v8.2.2 e4.Number v15.2))],[.mapc .i64 (List.map (ekv (evL encApiBlock)) [])],[.mp 3,.mp 4,.mp 5,.mp 6,.mp 7],[.d (.int .i64 e4.Number),.d (.list (List.map encApiBlock e4.Blocks))]],[(31,v2.1.length),(2,v5.length)]⟩ (by kernel_rfl) (fun e h=>?_) (fun e h=>?_))) h
 simp only [seval,EME,w_none,w_eq,SB,eInt,eList,lit_pn]
 refine regV.toA (k := 8) (ms := [3,4,5,6,7]) (regV.moveB (j := 0) (by kernel_rfl) rfl rfl rfl ?_)
 simp only [seval,EME,w_none,w_eq,eInt,eList,lit_pn]
 refine regV.nilB (j := 1) (by kernel_rfl) rfl rfl rfl rfl ?_
 simp only [seval,EME,w_none,w_eq,eInt,eList,lit_pn]
 refine regV.fieldB (j := 2) (y := .ptr 8 2) (by kernel_rfl) rfl rfl rfl (by first | simp only [seval,EME,fld_119_2,sz_116,eInt,eList,lit_pn] | kernel_rfl) ?_
 simp only [seval,EME,w_none,w_eq,fld_119_2,sz_116,eInt,eList,lit_pn]
 refine regV.loadB (j := 3) (m := 5) (by kernel_rfl) rfl rfl rfl rfl ag_116 rfl ?_
 simp only [seval,EME,w_none,w_eq,ag_116,sz_116,eInt,eList,lit_pn]
 refine regV.moveB (j := 4) (by kernel_rfl) rfl rfl rfl ?_
 simp only [seval,EME,w_none,w_eq,eInt,eList,lit_pn]
 refine regV.moveB (j := 5) (by kernel_rfl) rfl rfl rfl ?_
 simp only [seval,EME,w_none,w_eq,eInt,eList,lit_pn]
 refine regV.nilB (j := 6) (by kernel_rfl) rfl rfl rfl rfl ?_
 simp only [seval,EME,w_none,w_eq,eInt,eList,lit_pn]
 refine regV.fieldB (j := 7) (y := .ptr 8 3) (by kernel_rfl) rfl rfl rfl (by first | simp only [seval,EME,fld_119_3,sz_117,eInt,eList,lit_pn] | kernel_rfl) ?_
 simp only [seval,EME,w_none,w_eq,fld_119_3,sz_117,eInt,eList,lit_pn]
 refine regV.loadB (j := 8) (m := 6) (by kernel_rfl) rfl rfl rfl rfl ag_117 rfl ?_
 simp only [seval,EME,w_none,w_eq,ag_117,sz_117,eInt,eList,lit_pn]
 refine regV.moveB (j := 9) (by kernel_rfl) rfl rfl rfl ?_
 simp only [seval,EME,w_none,w_eq,eInt,eList,lit_pn]
 refine regV.moveB (j := 10) (by kernel_rfl) rfl rfl rfl ?_
 simp only [seval,EME,w_none,w_eq,eInt,eList,lit_pn]
 refine regV.moveB (j := 11) (by kernel_rfl) rfl rfl rfl ?_
 simp only [seval,EME,w_none,w_eq,eInt,eList,lit_pn]
 refine regV.nilB (j := 12) (by kernel_rfl) rfl rfl rfl rfl ?_
 simp only [seval,EME,w_none,w_eq,eInt,eList,lit_pn]
 refine regV.fieldB (j := 13) (y := .ptr 8 0) (by kernel_rfl) rfl rfl rfl (by first | simp only [seval,EME,fld_119_0,sz_115,eInt,eList,lit_pn] | kernel_rfl) ?_
 simp only [seval,EME,w_none,w_eq,fld_119_0,sz_115,eInt,eList,lit_pn]
 refine regV.loadB (j := 14) (m := 3) (by kernel_rfl) rfl rfl rfl rfl ag_115 rfl ?_
 simp only [seval,EME,w_none,w_eq,ag_115,sz_115,eInt,eList,lit_pn]
 refine regV.moveB (j := 15) (by kernel_rfl) rfl rfl rfl ?_
 simp only [seval,EME,w_none,w_eq,eInt,eList,lit_pn]
 refine regV.one (j := 16) (by kernel_rfl) rfl (regW.alt 0 rfl ?_)
 simp only [seval,EME,w_none,w_eq,eInt,eList,lit_pn]
 refine alt_lookup rfl rfl rfl (by simp only [mapT,und_115,und_2]) zero_31 rfl (regW.of ?_)
 simp only [seval,EME,w_none,w_eq,mg_L,eInt,eList,lit_pn]
 refine ⟨rfl,?_⟩
 refine regV.one (j := 17) (by kernel_rfl) rfl (regW.of ?_)
 simp only [seval,EME,w_none,w_eq,eInt,eList,lit_pn]
 refine SpecS.inl Tryz.func60 rfl (by kernel_rfl) (by kernel_rfl) (fun v15 : Int × Int=>.tuple [.d (.int .i64 v15.1),.d (.int .i64 v15.2)]) (fun v15=>⟨[[.d (.list (List.map encApiBlock a0.Main)),.d (.list (List.map encSubprogramSub a0.Subs))],[.d (.list (List.map encApiBlock a0.Main)),.d (.list (List.map encSubprogramSub a0.Subs))],[.d (.list (List.map encApiBlock a0.Main)),.d (.list (List.map encSubprogramSub a0.Subs))],[.mapc .i64 (List.map (ekv (evL encApiBlock)) v2.2)],[.mapc .i64 (List.map (ekv (evI .i64)) (mput (mput v8.1 e4.Number 1) e4.Number 2))],[.mapc .i64 (List.map (ekv (evI .i64)) v8.2.1)],[.mapc .i64 (List.map (ekv (evI .i64)) v8.2.2)],[.mapc .i64 (List.map (ekv (evL encApiBlock)) [])],[.mp 3,.mp 4,.mp 5,.mp 6,.mp 7],[.d (.int .i64 e4.Number),.d (.list (List.map encApiBlock e4.Blocks))]],[(31,v2.1.length),(2,v5.length)]⟩) h15 rfl ?_ ?_
 simp only [List.replicate,List.length,nS,nA,Tryz.ntmps60,SV]
 refine .sR fun e h=>?_
 simp only [seval,EME,eInt,eList,lit_pn]
 refine mU e (.sR fun e h=>?_) h
 simp only [seval,EME,eInt,eList,lit_pn]
 refine mU e (.seqK (.sR fun e h=>?_)) h
 simp only [seval,EME,und_31,eInt,eList,lit_pn]
 refine mU e (Mir.joinO (fun v14 : Int × Int=>([U,U,U,U,U,U,.d (.int .i64 v14.1),.d (.int .i64 v14.2)] ++ us 48)) (fun v14=>⟨[[.d (.list (List.map encApiBlock a0.Main)),.d (.list (List.map encSubprogramSub a0.Subs))],[.d (.list (List.map encApiBlock a0.Main)),.d (.list (List.map encSubprogramSub a0.Subs))],[.d (.list (List.map encApiBlock a0.Main)),.d (.list (List.map encSubprogramSub a0.Subs))],[.mapc .i64 (List.map (ekv (evL encApiBlock)) v2.2)],[.mapc .i64 (List.map (ekv (evI .i64)) (mput (mput v8.1 e4.Number 1) e4.Number 2))],[.mapc .i64 (List.map (ekv (evI .i64)) v8.2.1)],[.mapc .i64 (List.map (ekv (evI .i64)) v8.2.2)],[.mapc .i64 (List.map (ekv (evL encApiBlock)) [])],[.mp 3,.mp 4,.mp 5,.mp 6,.mp 7],[.d (.int .i64 e4.Number),.d (.list (List.map encApiBlock e4.Blocks))]],[(31,v2.1.length),(2,v5.length)]⟩) (fun _=>rfl) ?_ ?_) h
 refine .block (.guard fun q17=>Mir.range (fun (i6 : Nat) (v12 : Int × Int)=>([.ptr 8 0,U,U,U,U,U,.d (.int .i64 v12.1),.d (.int .i64 v12.2),U,U,U,U,U,U,.d (.list (List.map encApiBlock ((mget v2.2 e4.Number).getD []))),.d (.int .i64 (((mget v2.2 e4.Number).getD []).length : Int)),.d (.int .i64 (i6 : Int))] ++ us 39)) (fun i6 v12=>⟨[[.d (.list (List.map encApiBlock a0.Main)),.d (.list (List.map encSubprogramSub a0.Subs))],[.d (.list (List.map encApiBlock a0.Main)),.d (.list (List.map encSubprogramSub a0.Subs))],[.d (.list (List.map encApiBlock a0.Main)),.d (.list (List.map encSubprogramSub a0.Subs))],[.mapc .i64 (List.map (ekv (evL encApiBlock)) v2.2)],[.mapc .i64 (List.map (ekv (evI .i64)) (mput (mput v8.1 e4.Number 1) e4.Number 2))],[.mapc .i64 (List.map (ekv (evI .i64)) v8.2.1)],[.mapc .i64 (List.map (ekv (evI .i64)) v8.2.2)],[.mapc .i64 (List.map (ekv (evL encApiBlock)) [])],[.mp 3,.mp 4,.mp 5,.mp 6,.mp 7],[.d (.int .i64 e4.Number),.d (.list (List.map encApiBlock e4.Blocks))]],[(31,v2.1.length),(2,v5.length)]⟩) q17 (fun _ _=>rfl) (by simp only [seval,FME,eInt,eList,lit_pn,zNI]) (by simp only [seval,FME,eInt,eList,lit_pn,zNI]) ?_ ?_)
 intro i6 e6 v12 q18
 refine .sR fun e h=>?_
 simp only [seval,EME,q18,eInt,eList,lit_pn]
 refine mU e (.seqK (.condT rfl (.skip (Mir.toK (.seqK (.block (.sR fun e h=>?_))))))) h
 simp only [seval,EME,und_31,sz_48,q18,Int.toNat_natCast,ag_48,zero_48,eInt,eList,lit_pn]
 refine mU e (.seqK (.bind fun y5 h16=>.region fun e h=>?_)) h
 simp only [seval,EME,ag_48,sz_48,eInt,eList,lit_pn]
 refine SpecS.by (sp_Call_spec h16) (by simp only [seval,FME,eInt,eList,lit_pn]) ?_
 simp only [seval,EME,eInt,eList,lit_pn]
 refine mU e (.seqK (.sR fun e h=>?_)) h
 simp only [seval,EME,eInt,eList,lit_pn]
 refine mU e (Mir.joinO (fun v13 : Int × Int=>([.ptr 8 0,U,U,U,U,U,.d (.int .i64 v13.1),.d (.int .i64 v13.2),U,U,U,U,U,U,.d (.list (List.map encApiBlock ((mget v2.2 e4.Number).getD []))),.d (.int .i64 (((mget v2.2 e4.Number).getD []).length : Int)),.d (.int .i64 (i6 : Int))] ++ us 39)) (fun v13=>⟨[[.d (.list (List.map encApiBlock a0.Main)),.d (.list (List.map encSubprogramSub a0.Subs))],[.d (.list (List.map encApiBlock a0.Main)),.d (.list (List.map encSubprogramSub a0.Subs))],[.d (.list (List.map encApiBlock a0.Main)),.d (.list (List.map encSubprogramSub a0.Subs))],[.mapc .i64 (List.map (ekv (evL encApiBlock)) v2.2)],[.mapc .i64 (List.map (ekv (evI .i64)) (mput (mput v8.1 e4.Number 1) e4.Number 2))],[.mapc .i64 (List.map (ekv (evI .i64)) v8.2.1)],[.mapc .i64 (List.map (ekv (evI .i64)) v8.2.2)],[.mapc .i64 (List.map (ekv (evL encApiBlock)) [])],[.mp 3,.mp 4,.mp 5,.mp 6,.mp 7],[.d (.int .i64 e4.Number),.d (.list (List.map encApiBlock e4.Blocks))],[.d (.bool e6.Skip),.d (.list (List.map encApiWord e6.Words)),.d (.str e6.Comment)]],[(31,v2.1.length),(2,v5.length)]⟩) (fun _=>rfl) ?_ ?_) h
 refine .cond rfl (fun h17=>?_) (fun h17=>?_)
 refine .region fun e h=>?_
 simp only [seval,EME,eInt,eList,lit_pn]
 cases h
 simp only [seval,FME,eInt,eList,lit_pn,Tryz.results60]
 refine .seqK (.regionW fun e h=>regW.alt 6 rfl ?_)
 simp only [seval,EME,w_none,w_eq,fld_119_2,sz_116,ag_116,eInt,eList,lit_pn]
 refine alt_lookup rfl rfl rfl (by simp only [mapT,und_116,und_2]) zero_3 rfl (regW.of ?_)
 simp only [seval,EME,w_none,w_eq,mg_I,eInt,eList,lit_pn]
 refine mU e (.regionW fun e h=>regW.alt 7 rfl ?_) h
 simp only [seval,EME,w_none,w_eq,fld_119_3,sz_117,ag_117,eInt,eList,lit_pn]
 refine alt_lookup rfl rfl rfl (by simp only [mapT,und_117,und_2]) zero_2 rfl (regW.of ?_)
 simp only [seval,EME,w_none,w_eq,mg_I,eInt,eList,lit_pn]
 cases h
 simp only [seval,FME,eInt,eList,lit_pn,Tryz.results60]
 intro v13
 refine Mir.toK (.region fun e h=>?_)
 simp only [seval,EME,eInt,eList,lit_pn]
 refine mU e (.region fun e h=>?_) h
 simp only [seval,EME,eInt,eList,lit_pn]
 cases h
 simp only [seval,FME,eInt,eList,lit_pn,Tryz.results60,q18]
 intro v12 q19
 refine .sR fun e h=>?_
 simp only [seval,EME,q19,eInt,eList,lit_pn]
 refine mU e (.seqK (.condF rfl (.exit fun e h=>?_))) h
 cases h
 simp only [seval,FME,eInt,eList,lit_pn,Tryz.results60]
 intro v14
 refine Mir.toK (.sR fun e h=>?_)
 simp only [seval,EME,eInt,eList,lit_pn]
 refine mU e (.ret fun e h=>?_) h
 cases h
 simp only [seval,FME,eInt,eList,lit_pn,Tryz.results60]
 simp only [seval,EME,w_none,w_eq,eInt,eList,lit_pn]
 refine ⟨rfl,?_⟩
 refine regV.moveB (j := 18) (by kernel_rfl) rfl rfl rfl ?_
 simp only [seval,EME,w_none,w_eq,eInt,eList,lit_pn]
 refine regV.extB (j := 19) (by kernel_rfl) rfl rfl rfl rfl rfl ?_
 simp only [seval,EME,w_none,w_eq,eInt,eList,lit_pn]
 refine regV.extB (j := 20) (by kernel_rfl) rfl rfl rfl rfl rfl ?_
 simp only [seval,EME,w_none,w_eq,eInt,eList,lit_pn]
 refine regV.one (j := 21) (by kernel_rfl) rfl (regW.alt 0 rfl ?_)
 simp only [seval,EME,w_none,w_eq,eInt,eList,lit_pn]
 refine alt_mapUpdate (et := 3) rfl rfl rfl rfl (by simp only [mapT,und_116,und_2]) (regW.of ?_)
 simp only [seval,EME,w_none,w_eq,mp_I,eInt,eList,lit_pn]
 refine ⟨rfl,?_⟩
 refine regV.one (j := 22) (by kernel_rfl) rfl (regW.alt 0 rfl ?_)
 simp only [seval,EME,w_none,w_eq,eInt,eList,lit_pn]
 refine alt_mapUpdate (et := 2) rfl rfl rfl rfl (by simp only [mapT,und_117,und_2]) (regW.of ?_)
 simp only [seval,EME,w_none,w_eq,mp_I,eInt,eList,lit_pn]
 refine ⟨rfl,?_⟩
 exact regV.nil (by kernel_rfl) ⟨by first | rfl | simp only [seval,FME,eInt,eList,lit_pn,xMA,xLA],by first | rfl | simp only [seval,FME,eInt,eList,lit_pn,xMA,xLA]⟩
 refine mU e (.sR fun e h=>?_) h
 simp only [seval,EME,eInt,eList,lit_pn]
 refine mU e (.ret fun e h=>?_) h
 cases h
 simp only [seval,FME,eInt,eList,lit_pn,Tryz.results82]
 simp only [seval,EME,eInt,eList,lit_pn]
 refine mU e (.cond rfl (fun h18=>?_) (fun h18=>?_)) h
 exact Mir.no
 refine .skip (Mir.toB (Mir.toK (.region fun e h=>?_)))
 simp only [seval,EME,eInt,eList,lit_pn]
 cases h
 simp only [seval,FME,eInt,eList,lit_pn,Tryz.results59,q13]
 intro v8 q20
 refine .sR fun e h=>?_
 simp only [seval,EME,q20,eInt,eList,lit_pn]
 refine mU e (.seqK (.condF rfl (.exit fun e h=>?_))) h
 cases h
 simp only [seval,FME,eInt,eList,lit_pn,Tryz.results59]
 intro v17
 refine Mir.toK (.sR fun e h=>?_)
 simp only [seval,EME,eInt,eList,lit_pn]
 refine mU e (.ret fun e h=>?_) h
 cases h
 simp only [seval,FME,eInt,eList,lit_pn,Tryz.results59]
 simp only [seval,EME,eInt,eList,lit_pn]
 refine mU e (.seqK (.sR fun e h=>?_)) h
 simp only [seval,EME,(nr rfl : ((0 : Int) != 0) = false),eInt,eList,lit_pn]
 refine mU e (.condF rfl (.skip (Mir.toK (.seqK (.bind fun v22 h19=>.region fun e h=>?_))))) h
 simp only [seval,EME,fld_38_0,sz_31,ag_31,eInt,eList,lit_pn]
 refine SpecS.inl Tryz.func60 rfl (by kernel_rfl) (by kernel_rfl) (fun v22 : Int × Int=>.tuple [.d (.int .i64 v22.1),.d (.int .i64 v22.2)]) (fun v22=>⟨[[.d (.list (List.map encApiBlock a0.Main)),.d (.list (List.map encSubprogramSub a0.Subs))],[.d (.list (List.map encApiBlock a0.Main)),.d (.list (List.map encSubprogramSub a0.Subs))],[.d (.list (List.map encApiBlock a0.Main)),.d (.list (List.map encSubprogramSub a0.Subs))],[.mapc .i64 (List.map (ekv (evL encApiBlock)) v18.1)],[.mapc .i64 (List.map (ekv (evI .i64)) v18.2.1)],[.mapc .i64 (List.map (ekv (evI .i64)) v18.2.2.1)],[.mapc .i64 (List.map (ekv (evI .i64)) v18.2.2.2)],[.mapc .i64 (List.map (ekv (evL encApiBlock)) [])],[.mp 3,.mp 4,.mp 5,.mp 6,.mp 7]],[]⟩) h19 rfl ?_ ?_
 simp only [List.replicate,List.length,nS,nA,Tryz.ntmps60,SV]
 refine .sR fun e h=>?_
 simp only [seval,EME,eInt,eList,lit_pn]
 refine mU e (.sR fun e h=>?_) h
 simp only [seval,EME,eInt,eList,lit_pn]
 refine mU e (.seqK (.sR fun e h=>?_)) h
 simp only [seval,EME,und_31,eInt,eList,lit_pn]
 refine mU e (Mir.joinO (fun v21 : Int × Int=>([U,U,U,U,U,U,.d (.int .i64 v21.1),.d (.int .i64 v21.2)] ++ us 48)) (fun v21=>⟨[[.d (.list (List.map encApiBlock a0.Main)),.d (.list (List.map encSubprogramSub a0.Subs))],[.d (.list (List.map encApiBlock a0.Main)),.d (.list (List.map encSubprogramSub a0.Subs))],[.d (.list (List.map encApiBlock a0.Main)),.d (.list (List.map encSubprogramSub a0.Subs))],[.mapc .i64 (List.map (ekv (evL encApiBlock)) v18.1)],[.mapc .i64 (List.map (ekv (evI .i64)) v18.2.1)],[.mapc .i64 (List.map (ekv (evI .i64)) v18.2.2.1)],[.mapc .i64 (List.map (ekv (evI .i64)) v18.2.2.2)],[.mapc .i64 (List.map (ekv (evL encApiBlock)) [])],[.mp 3,.mp 4,.mp 5,.mp 6,.mp 7]],[]⟩) (fun _=>rfl) ?_ ?_) h
 refine .block (.guard fun q21=>Mir.range (fun (i7 : Nat) (v19 : Int × Int)=>([.ptr 8 0,U,U,U,U,U,.d (.int .i64 v19.1),.d (.int .i64 v19.2),U,U,U,U,U,U,.d (.list (List.map encApiBlock a0.Main)),.d (.int .i64 (a0.Main.length : Int)),.d (.int .i64 (i7 : Int))] ++ us 39)) (fun i7 v19=>⟨[[.d (.list (List.map encApiBlock a0.Main)),.d (.list (List.map encSubprogramSub a0.Subs))],[.d (.list (List.map encApiBlock a0.Main)),.d (.list (List.map encSubprogramSub a0.Subs))],[.d (.list (List.map encApiBlock a0.Main)),.d (.list (List.map encSubprogramSub a0.Subs))],[.mapc .i64 (List.map (ekv (evL encApiBlock)) v18.1)],[.mapc .i64 (List.map (ekv (evI .i64)) v18.2.1)],[.mapc .i64 (List.map (ekv (evI .i64)) v18.2.2.1)],[.mapc .i64 (List.map (ekv (evI .i64)) v18.2.2.2)],[.mapc .i64 (List.map (ekv (evL encApiBlock)) [])],[.mp 3,.mp 4,.mp 5,.mp 6,.mp 7]],[]⟩) q21 (fun _ _=>rfl) (by simp only [seval,FME,eInt,eList,lit_pn,zNI]) (by simp only [seval,FME,eInt,eList,lit_pn,zNI]) ?_ ?_)
 intro i7 e7 v19 q22
 refine .sR fun e h=>?_
 simp only [seval,EME,q22,eInt,eList,lit_pn]
 refine mU e (.seqK (.condT rfl (.skip (Mir.toK (.seqK (.block (.sR fun e h=>?_))))))) h
 simp only [seval,EME,und_31,sz_48,q22,Int.toNat_natCast,ag_48,zero_48,eInt,eList,lit_pn]
 refine mU e (.seqK (.bind fun y6 h20=>.region fun e h=>?_)) h
 simp only [seval,EME,ag_48,sz_48,eInt,eList,lit_pn]
 refine SpecS.by (sp_Call_spec h20) (by simp only [seval,FME,eInt,eList,lit_pn]) ?_
 simp only [seval,EME,eInt,eList,lit_pn]
 refine mU e (.seqK (.sR fun e h=>?_)) h
 simp only [seval,EME,eInt,eList,lit_pn]
 refine mU e (Mir.joinO (fun v20 : Int × Int=>([.ptr 8 0,U,U,U,U,U,.d (.int .i64 v20.1),.d (.int .i64 v20.2),U,U,U,U,U,U,.d (.list (List.map encApiBlock a0.Main)),.d (.int .i64 (a0.Main.length : Int)),.d (.int .i64 (i7 : Int))] ++ us 39)) (fun v20=>⟨[[.d (.list (List.map encApiBlock a0.Main)),.d (.list (List.map encSubprogramSub a0.Subs))],[.d (.list (List.map encApiBlock a0.Main)),.d (.list (List.map encSubprogramSub a0.Subs))],[.d (.list (List.map encApiBlock a0.Main)),.d (.list (List.map encSubprogramSub a0.Subs))],[.mapc .i64 (List.map (ekv (evL encApiBlock)) v18.1)],[.mapc .i64 (List.map (ekv (evI .i64)) v18.2.1)],[.mapc .i64 (List.map (ekv (evI .i64)) v18.2.2.1)],[.mapc .i64 (List.map (ekv (evI .i64)) v18.2.2.2)],[.mapc .i64 (List.map (ekv (evL encApiBlock)) [])],[.mp 3,.mp 4,.mp 5,.mp 6,.mp 7],[.d (.bool e7.Skip),.d (.list (List.map encApiWord e7.Words)),.d (.str e7.Comment)]],[]⟩) (fun _=>rfl) ?_ ?_) h
 refine .cond rfl (fun h21=>?_) (fun h21=>?_)
 refine .region fun e h=>?_
 simp only [seval,EME,eInt,eList,lit_pn]
 cases h
 simp only [seval,FME,eInt,eList,lit_pn,Tryz.results60]
 refine .seqK (.regionW fun e h=>regW.alt 6 rfl ?_)
 simp only [seval,EME,w_none,w_eq,fld_119_2,sz_116,ag_116,eInt,eList,lit_pn]
 refine alt_lookup rfl rfl rfl (by simp only [mapT,und_116,und_2]) zero_3 rfl (regW.of ?_)
 simp only [seval,EME,w_none,w_eq,mg_I,eInt,eList,lit_pn]
 refine mU e (.regionW fun e h=>regW.alt 7 rfl ?_) h
 simp only [seval,EME,w_none,w_eq,fld_119_3,sz_117,ag_117,eInt,eList,lit_pn]
 refine alt_lookup rfl rfl rfl (by simp only [mapT,und_117,und_2]) zero_2 rfl (regW.of ?_)
 simp only [seval,EME,w_none,w_eq,mg_I,eInt,eList,lit_pn]
 cases h
 simp only [seval,FME,eInt,eList,lit_pn,Tryz.results60]
 intro v20
 refine Mir.toK (.region fun e h=>?_)
 simp only [seval,EME,eInt,eList,lit_pn]
 refine mU e (.region fun e h=>?_) h
 simp only [seval,EME,eInt,eList,lit_pn]
 cases h
 simp only [seval,FME,eInt,eList,lit_pn,Tryz.results60,q22]
 intro v19 q23
 refine .sR fun e h=>?_
 simp only [seval,EME,q23,eInt,eList,lit_pn]
 refine mU e (.seqK (.condF rfl (.exit fun e h=>?_))) h
 cases h
 simp only [seval,FME,eInt,eList,lit_pn,Tryz.results60]
 intro v21
 refine Mir.toK (.sR fun e h=>?_)
 simp only [seval,EME,eInt,eList,lit_pn]
 refine mU e (.ret fun e h=>?_) h
 cases h
 simp only [seval,FME,eInt,eList,lit_pn,Tryz.results60]
 simp only [seval,EME,eInt,eList,lit_pn]
 refine mU e (.seqK (.seqK (.joinV [U,U,U,U,U,.ptr 8 0,U,U,.d (.int .i64 v22.2),U,U,U,U,U,U,U,U,U,U,U,U,U,U,U,U,U,U,U,U,.d (.bool ((decide (v22.1 > 8)) || (decide (v22.2 > 20000)))),U,U] ⟨[[.d (.list (List.map encApiBlock a0.Main)),.d (.list (List.map encSubprogramSub a0.Subs))],[.d (.list (List.map encApiBlock a0.Main)),.d (.list (List.map encSubprogramSub a0.Subs))],[.d (.list (List.map encApiBlock a0.Main)),.d (.list (List.map encSubprogramSub a0.Subs))],[.mapc .i64 (List.map (ekv (evL encApiBlock)) v18.1)],[.mapc .i64 (List.map (ekv (evI .i64)) v18.2.1)],[.mapc .i64 (List.map (ekv (evI .i64)) v18.2.2.1)],[.mapc .i64 (List.map (ekv (evI .i64)) v18.2.2.2)],[.mapc .i64 (List.map (ekv (evL encApiBlock)) [])],[.mp 3,.mp 4,.mp 5,.mp 6,.mp 7]],[]⟩ rfl ?_ ?_))) h
 refine SWs.region ?_
 rcases Bool.eq_false_or_eq_true (decide (v22.1 > 8)) with h22 | h22
 simp only [seval,EME,SL,PB,h22,eInt,eList,lit_pn]
 simp only [seval,EME,SL,PB,h22,eInt,eList,lit_pn]
 refine Mir.toK (.cond rfl (fun h23=>?_) (fun h23=>?_))
 exact Mir.no
 refine .skip (Mir.toK (.sR fun e h=>?_))
 simp only [seval,EME,eInt,eList,lit_pn]
 refine mU e (.ret fun e h=>?_) h
 cases h
 simp only [seval,FME,eInt,eList,lit_pn,Tryz.results31]
 simp only [seval,EME,eInt,eList,lit_pn]
 refine mU e (.seqK (.sR fun e h=>?_)) h
 simp only [seval,EME,(nr rfl : ((0 : Int) != 0) = false),eInt,eList,lit_pn]
 refine mU e (.condF rfl (.skip (Mir.toK (.sR fun e h=>?_)))) h
 simp only [seval,EME,eInt,eList,lit_pn]
 refine mU e (.seqK (.seqK (.bind fun v34 h24=>.region fun e h=>?_))) h
 simp only [seval,EME,fld_38_0,sz_31,ag_31,eInt,eList,lit_pn]
 refine SpecS.inl Tryz.func32 rfl (by kernel_rfl) (by kernel_rfl) (fun v34 : (List ApiBlock) × (List (Int × (List ApiBlock)))=>.own 0 (List.map encApiBlock v34.1)) (fun v34=>⟨[[.d (.list (List.map encApiBlock a0.Main)),.d (.list (List.map encSubprogramSub a0.Subs))],[.d (.list (List.map encApiBlock a0.Main)),.d (.list (List.map encSubprogramSub a0.Subs))],[.d (.list (List.map encApiBlock a0.Main)),.d (.list (List.map encSubprogramSub a0.Subs))],[.mapc .i64 (List.map (ekv (evL encApiBlock)) v23.2.1)],[.mapc .i64 (List.map (ekv (evI .i64)) v23.2.2.1)],[.mapc .i64 (List.map (ekv (evI .i64)) v23.2.2.2.1)],[.mapc .i64 (List.map (ekv (evI .i64)) v23.2.2.2.2)],[.mapc .i64 (List.map (ekv (evL encApiBlock)) v34.2)],[.mp 3,.mp 4,.mp 5,.mp 6,.mp 7]],[(48,v34.1.length)]⟩) h24 rfl ?_ ?_
 simp only [List.replicate,List.length,nS,nA,Tryz.ntmps32,SV]
 refine .sR fun e h=>?_
 simp only [seval,EME,eInt,eList,lit_pn]
 refine mU e (.sR fun e h=>?_) h
 simp only [seval,EME,eInt,eList,lit_pn]
 refine mU e (.seqK (.sR fun e h=>?_)) h
 simp only [seval,EME,und_31,eInt,eList,lit_pn]
 refine mU e (.gh [.slot 5 48] rfl (Mir.joinO (fun v33 : (List ApiBlock) × (List (Int × (List ApiBlock)))=>([U,U,U,U,U,.own 0 (List.map encApiBlock v33.1)] ++ us 64)) (fun v33=>⟨[[.d (.list (List.map encApiBlock a0.Main)),.d (.list (List.map encSubprogramSub a0.Subs))],[.d (.list (List.map encApiBlock a0.Main)),.d (.list (List.map encSubprogramSub a0.Subs))],[.d (.list (List.map encApiBlock a0.Main)),.d (.list (List.map encSubprogramSub a0.Subs))],[.mapc .i64 (List.map (ekv (evL encApiBlock)) v23.2.1)],[.mapc .i64 (List.map (ekv (evI .i64)) v23.2.2.1)],[.mapc .i64 (List.map (ekv (evI .i64)) v23.2.2.2.1)],[.mapc .i64 (List.map (ekv (evI .i64)) v23.2.2.2.2)],[.mapc .i64 (List.map (ekv (evL encApiBlock)) v33.2)],[.mp 3,.mp 4,.mp 5,.mp 6,.mp 7]],[(48,v33.1.length)]⟩) (fun _=>rfl) ?_ ?_)) h
 refine .block (.guard fun q24=>Mir.range (fun (i8 : Nat) (v24 : (List ApiBlock) × (List (Int × (List ApiBlock))))=>([.ptr 8 0,U,U,U,U,.own 0 (List.map encApiBlock v24.1),U,U,U,U,U,U,U,U,.d (.list (List.map encApiBlock a0.Main)),.d (.int .i64 (a0.Main.length : Int)),.d (.int .i64 (i8 : Int))] ++ us 53)) (fun i8 v24=>⟨[[.d (.list (List.map encApiBlock a0.Main)),.d (.list (List.map encSubprogramSub a0.Subs))],[.d (.list (List.map encApiBlock a0.Main)),.d (.list (List.map encSubprogramSub a0.Subs))],[.d (.list (List.map encApiBlock a0.Main)),.d (.list (List.map encSubprogramSub a0.Subs))],[.mapc .i64 (List.map (ekv (evL encApiBlock)) v23.2.1)],[.mapc .i64 (List.map (ekv (evI .i64)) v23.2.2.1)],[.mapc .i64 (List.map (ekv (evI .i64)) v23.2.2.2.1)],[.mapc .i64 (List.map (ekv (evI .i64)) v23.2.2.2.2)],[.mapc .i64 (List.map (ekv (evL encApiBlock)) v24.2)],[.mp 3,.mp 4,.mp 5,.mp 6,.mp 7]],[(48,v24.1.length)]⟩) q24 (fun _ _=>rfl) (by simp only [seval,FME,eInt,eList,lit_pn,zNI]) (by simp only [seval,FME,eInt,eList,lit_pn,zNI]) ?_ ?_)
 intro i8 e8 v24 q25
 refine .sR fun e h=>?_
 simp only [seval,EME,q25,eInt,eList,lit_pn]
 refine mU e (.seqK (.condT rfl (.skip (Mir.toK (.seqK (Mir.joinO (fun v32 : (List ApiBlock) × (List (Int × (List ApiBlock)))=>([.ptr 8 0,U,U,U,U,.own 0 (List.map encApiBlock v32.1),U,U,U,U,U,U,U,U,.d (.list (List.map encApiBlock a0.Main)),.d (.int .i64 (a0.Main.length : Int)),.d (.int .i64 (i8 : Int))] ++ us 53)) (fun v32=>⟨[[.d (.list (List.map encApiBlock a0.Main)),.d (.list (List.map encSubprogramSub a0.Subs))],[.d (.list (List.map encApiBlock a0.Main)),.d (.list (List.map encSubprogramSub a0.Subs))],[.d (.list (List.map encApiBlock a0.Main)),.d (.list (List.map encSubprogramSub a0.Subs))],[.mapc .i64 (List.map (ekv (evL encApiBlock)) v23.2.1)],[.mapc .i64 (List.map (ekv (evI .i64)) v23.2.2.1)],[.mapc .i64 (List.map (ekv (evI .i64)) v23.2.2.2.1)],[.mapc .i64 (List.map (ekv (evI .i64)) v23.2.2.2.2)],[.mapc .i64 (List.map (ekv (evL encApiBlock)) v32.2)],[.mp 3,.mp 4,.mp 5,.mp 6,.mp 7]],[(48,v32.1.length)]⟩) (fun _=>rfl) ?_ ?_)))))) h
 refine .block (.sR fun e h=>?_)
 simp only [seval,EME,und_31,sz_48,q25,Int.toNat_natCast,ag_48,zero_48,eInt,eList,lit_pn]
 refine mU e (.seqK (.bind fun y7 h25=>.region fun e h=>?_)) h
 simp only [seval,EME,ag_48,sz_48,eInt,eList,lit_pn]
 refine SpecS.by (sp_Call_spec h25) (by simp only [seval,FME,eInt,eList,lit_pn]) ?_
 simp only [seval,EME,eInt,eList,lit_pn]
 refine mU e (.seqK (.sR fun e h=>?_)) h
 simp only [seval,EME,eInt,eList,lit_pn]
 refine mU e (.cond rfl (fun h26=>?_) (fun h26=>?_)) h
 refine .seqK (.guard fun q26=>.region fun e h=>?_)
 simp only [seval,EME,ag_48,sz_48,und_31,zero_48,(oL 3),app_31,al_ApiBlock,q26,eInt,eList,lit_pn]
 refine mU e (.exit fun e h=>?_) h
 cases h
 simp only [seval,FME,eInt,eList,lit_pn,Tryz.results32]
 refine .skip (Mir.toK (.seqK (.regionW fun e h=>regW.alt 5 rfl ?_)))
 simp only [seval,EME,w_none,w_eq,fld_119_4,sz_115,ag_115,eInt,eList,lit_pn]
 refine alt_lookupOk rfl rfl rfl (by simp only [mapT,und_115,und_2]) zero_31 rfl (regW.of ?_)
 simp only [seval,EME,w_none,w_eq,mg_L,mis_kv,eInt,eList,lit_pn]
 refine mU e (.seqK (.sR fun e h=>?_)) h
 simp only [seval,EME,eInt,eList,lit_pn]
 refine mU e (Mir.joinO (fun v30 : (List ApiBlock) × (List (Int × (List ApiBlock)))=>([.ptr 8 0,U,U,U,U,.own 0 (List.map encApiBlock v24.1),U,U,U,.d (.int .i64 y7.2.1),U,U,.d (.list (List.map encApiBlock v30.1)),U,.d (.list (List.map encApiBlock a0.Main)),.d (.int .i64 (a0.Main.length : Int)),.d (.int .i64 (i8 : Int))] ++ us 53)) (fun v30=>⟨[[.d (.list (List.map encApiBlock a0.Main)),.d (.list (List.map encSubprogramSub a0.Subs))],[.d (.list (List.map encApiBlock a0.Main)),.d (.list (List.map encSubprogramSub a0.Subs))],[.d (.list (List.map encApiBlock a0.Main)),.d (.list (List.map encSubprogramSub a0.Subs))],[.mapc .i64 (List.map (ekv (evL encApiBlock)) v23.2.1)],[.mapc .i64 (List.map (ekv (evI .i64)) v23.2.2.1)],[.mapc .i64 (List.map (ekv (evI .i64)) v23.2.2.2.1)],[.mapc .i64 (List.map (ekv (evI .i64)) v23.2.2.2.2)],[.mapc .i64 (List.map (ekv (evL encApiBlock)) v30.2)],[.mp 3,.mp 4,.mp 5,.mp 6,.mp 7],[.d (.bool e8.Skip),.d (.list (List.map encApiWord e8.Words)),.d (.str e8.Comment)]],[(48,v24.1.length)]⟩) (fun _=>rfl) ?_ ?_) h
 refine .cond rfl (fun h27=>?_) (fun h27=>?_)
 refine .seqK (.bind fun v29 h28=>.regionW fun e h=>regW.alt 6 rfl ?_)
 simp only [seval,EME,w_none,w_eq,fld_119_0,sz_115,ag_115,eInt,eList,lit_pn]
 refine alt_lookup rfl rfl rfl (by simp only [mapT,und_115,und_2]) zero_31 rfl (regW.of ?_)
 simp only [seval,EME,w_none,w_eq,mg_L,eInt,eList,lit_pn]
 refine SpecS.inl Tryz.func32 rfl (by kernel_rfl) (by kernel_rfl) (fun v29 : (List ApiBlock)=>.own 1 (List.map encApiBlock v29)) (fun v29=>⟨[[.d (.list (List.map encApiBlock a0.Main)),.d (.list (List.map encSubprogramSub a0.Subs))],[.d (.list (List.map encApiBlock a0.Main)),.d (.list (List.map encSubprogramSub a0.Subs))],[.d (.list (List.map encApiBlock a0.Main)),.d (.list (List.map encSubprogramSub a0.Subs))],[.mapc .i64 (List.map (ekv (evL encApiBlock)) v23.2.1)],[.mapc .i64 (List.map (ekv (evI .i64)) v23.2.2.1)],[.mapc .i64 (List.map (ekv (evI .i64)) v23.2.2.2.1)],[.mapc .i64 (List.map (ekv (evI .i64)) v23.2.2.2.2)],[.mapc .i64 (List.map (ekv (evL encApiBlock)) v24.2)],[.mp 3,.mp 4,.mp 5,.mp 6,.mp 7],[.d (.bool e8.Skip),.d (.list (List.map encApiWord e8.Words)),.d (.str e8.Comment)]],[(48,v24.1.length),(48,v29.length)]⟩) h28 rfl ?_ ?_
 simp only [List.replicate,List.length,nS,nA,Tryz.ntmps32,SV]
 refine .sR fun e h=>?_
 simp only [seval,EME,eInt,eList,lit_pn]
 refine mU e (.sR fun e h=>?_) h
 simp only [seval,EME,eInt,eList,lit_pn]
 refine mU e (.seqK (.sR fun e h=>?_)) h
 simp only [seval,EME,und_31,eInt,eList,lit_pn]
 refine mU e (.gh [.slot 5 48] rfl (Mir.joinO (fun v28 : (List ApiBlock)=>([U,U,U,U,U,.own 1 (List.map encApiBlock v28)] ++ us 64)) (fun v28=>⟨[[.d (.list (List.map encApiBlock a0.Main)),.d (.list (List.map encSubprogramSub a0.Subs))],[.d (.list (List.map encApiBlock a0.Main)),.d (.list (List.map encSubprogramSub a0.Subs))],[.d (.list (List.map encApiBlock a0.Main)),.d (.list (List.map encSubprogramSub a0.Subs))],[.mapc .i64 (List.map (ekv (evL encApiBlock)) v23.2.1)],[.mapc .i64 (List.map (ekv (evI .i64)) v23.2.2.1)],[.mapc .i64 (List.map (ekv (evI .i64)) v23.2.2.2.1)],[.mapc .i64 (List.map (ekv (evI .i64)) v23.2.2.2.2)],[.mapc .i64 (List.map (ekv (evL encApiBlock)) v24.2)],[.mp 3,.mp 4,.mp 5,.mp 6,.mp 7],[.d (.bool e8.Skip),.d (.list (List.map encApiWord e8.Words)),.d (.str e8.Comment)]],[(48,v24.1.length),(48,v28.length)]⟩) (fun _=>rfl) ?_ ?_)) h
 refine .block (.guard fun q27=>Mir.range (fun (i9 : Nat) (v25 : (List ApiBlock))=>([.ptr 8 0,U,U,U,U,.own 1 (List.map encApiBlock v25),U,U,U,U,U,U,U,U,.d (.list (List.map encApiBlock ((mget v23.2.1 y7.1).getD []))),.d (.int .i64 (((mget v23.2.1 y7.1).getD []).length : Int)),.d (.int .i64 (i9 : Int))] ++ us 53)) (fun i9 v25=>⟨[[.d (.list (List.map encApiBlock a0.Main)),.d (.list (List.map encSubprogramSub a0.Subs))],[.d (.list (List.map encApiBlock a0.Main)),.d (.list (List.map encSubprogramSub a0.Subs))],[.d (.list (List.map encApiBlock a0.Main)),.d (.list (List.map encSubprogramSub a0.Subs))],[.mapc .i64 (List.map (ekv (evL encApiBlock)) v23.2.1)],[.mapc .i64 (List.map (ekv (evI .i64)) v23.2.2.1)],[.mapc .i64 (List.map (ekv (evI .i64)) v23.2.2.2.1)],[.mapc .i64 (List.map (ekv (evI .i64)) v23.2.2.2.2)],[.mapc .i64 (List.map (ekv (evL encApiBlock)) v24.2)],[.mp 3,.mp 4,.mp 5,.mp 6,.mp 7],[.d (.bool e8.Skip),.d (.list (List.map encApiWord e8.Words)),.d (.str e8.Comment)]],[(48,v24.1.length),(48,v25.length)]⟩) q27 (fun _ _=>rfl) (by simp only [seval,FME,eInt,eList,lit_pn,zNI]) (by simp only [seval,FME,eInt,eList,lit_pn,zNI]) ?_ ?_)
 intro i9 e9 v25 q28
 refine .sR fun e h=>?_
 simp only [seval,EME,q28,eInt,eList,lit_pn]
 refine mU e (.seqK (.condT rfl (.skip (Mir.toK (.seqK (Mir.joinO (fun v27 : (List ApiBlock)=>([.ptr 8 0,U,U,U,U,.own 1 (List.map encApiBlock v27),U,U,U,U,U,U,U,U,.d (.list (List.map encApiBlock ((mget v23.2.1 y7.1).getD []))),.d (.int .i64 (((mget v23.2.1 y7.1).getD []).length : Int)),.d (.int .i64 (i9 : Int))] ++ us 53)) (fun v27=>⟨[[.d (.list (List.map encApiBlock a0.Main)),.d (.list (List.map encSubprogramSub a0.Subs))],[.d (.list (List.map encApiBlock a0.Main)),.d (.list (List.map encSubprogramSub a0.Subs))],[.d (.list (List.map encApiBlock a0.Main)),.d (.list (List.map encSubprogramSub a0.Subs))],[.mapc .i64 (List.map (ekv (evL encApiBlock)) v23.2.1)],[.mapc .i64 (List.map (ekv (evI .i64)) v23.2.2.1)],[.mapc .i64 (List.map (ekv (evI .i64)) v23.2.2.2.1)],[.mapc .i64 (List.map (ekv (evI .i64)) v23.2.2.2.2)],[.mapc .i64 (List.map (ekv (evL encApiBlock)) v24.2)],[.mp 3,.mp 4,.mp 5,.mp 6,.mp 7],[.d (.bool e8.Skip),.d (.list (List.map encApiWord e8.Words)),.d (.str e8.Comment)]],[(48,v24.1.length),(48,v27.length)]⟩) (fun _=>rfl) ?_ ?_)))))) h
 refine .block (.sR fun e h=>?_)
 simp only [seval,EME,und_31,sz_48,q28,Int.toNat_natCast,ag_48,zero_48,eInt,eList,lit_pn]
 refine mU e (.seqK (.bind fun y8 h29=>.region fun e h=>?_)) h
 simp only [seval,EME,ag_48,sz_48,eInt,eList,lit_pn]
 refine SpecS.by (sp_Call_spec h29) (by simp only [seval,FME,eInt,eList,lit_pn]) ?_
 simp only [seval,EME,eInt,eList,lit_pn]
 refine mU e (.seqK (.sR fun e h=>?_)) h
 simp only [seval,EME,eInt,eList,lit_pn]
 refine mU e (.cond rfl (fun h30=>?_) (fun h30=>?_)) h
 refine .seqK (.guard fun q29=>.region fun e h=>?_)
 simp only [seval,EME,ag_48,sz_48,und_31,zero_48,(oL 3),app_31,al_ApiBlock,q29,eInt,eList,lit_pn]
 refine mU e (.exit fun e h=>?_) h
 cases h
 simp only [seval,FME,eInt,eList,lit_pn,Tryz.results32]
 refine .skip (Mir.toK (.seqK (.regionW fun e h=>regW.alt 5 rfl ?_)))
 simp only [seval,EME,w_none,w_eq,fld_119_4,sz_115,ag_115,eInt,eList,lit_pn]
 refine alt_lookupOk rfl rfl rfl (by simp only [mapT,und_115,und_2]) zero_31 rfl (regW.of ?_)
 simp only [seval,EME,w_none,w_eq,mg_L,mis_kv,eInt,eList,lit_pn]
 refine mU e (.seqK (.sR fun e h=>?_)) h
 simp only [seval,EME,eInt,eList,lit_pn]
 refine mU e (.cond rfl (fun h31=>?_) (fun h31=>?_)) h
 exact Mir.no
 refine .skip (Mir.toK (.seqK (.sR fun e h=>?_)))
 simp only [seval,EME,und_31,eInt,eList,lit_pn]
 refine mU e (.cond rfl (fun h32=>?_) (fun h32=>?_)) h
 refine .exit fun e h=>?_
 cases h
 simp only [seval,FME,eInt,eList,lit_pn,Tryz.results32]
 refine .skip (Mir.toK (.sR fun e h=>?_))
 simp only [seval,EME,eInt,eList,lit_pn]
 refine mU e (.block (Mir.loop (fun v26 : (List ApiBlock) × Int=>([.ptr 8 0,U,U,U,U,.own 1 (List.map encApiBlock v26.1),U,U,U,U,U,U,.d (.list (List.map encApiBlock ((mget v24.2 y8.1).getD []))),U,.d (.list (List.map encApiBlock ((mget v23.2.1 y7.1).getD []))),.d (.int .i64 (((mget v23.2.1 y7.1).getD []).length : Int)),.d (.int .i64 (i9 : Int)),U,U,U,U,U,U,U,U,U,U,U,U,U,U,U,U,U,U,U,U,U,U,U,U,U,U,U,U,U,U,U,U,U,U,U,U,U,U,U,U,U,U,U,U,.d (.int .i64 y8.2.1),.d (.int .i64 v26.2)] ++ us 7)) (fun v26=>⟨[[.d (.list (List.map encApiBlock a0.Main)),.d (.list (List.map encSubprogramSub a0.Subs))],[.d (.list (List.map encApiBlock a0.Main)),.d (.list (List.map encSubprogramSub a0.Subs))],[.d (.list (List.map encApiBlock a0.Main)),.d (.list (List.map encSubprogramSub a0.Subs))],[.mapc .i64 (List.map (ekv (evL encApiBlock)) v23.2.1)],[.mapc .i64 (List.map (ekv (evI .i64)) v23.2.2.1)],[.mapc .i64 (List.map (ekv (evI .i64)) v23.2.2.2.1)],[.mapc .i64 (List.map (ekv (evI .i64)) v23.2.2.2.2)],[.mapc .i64 (List.map (ekv (evL encApiBlock)) v24.2)],[.mp 3,.mp 4,.mp 5,.mp 6,.mp 7],[.d (.bool e8.Skip),.d (.list (List.map encApiWord e8.Words)),.d (.str e8.Comment)],[.d (.bool e9.Skip),.d (.list (List.map encApiWord e9.Words)),.d (.str e9.Comment)]],[(48,v24.1.length),(48,v26.1.length)]⟩) (fun _=>rfl) (by simp only [seval,FME,eInt,eList,lit_pn]) (by simp only [seval,FME,eInt,eList,lit_pn]) fun v26=>.sR fun e h=>?_)) h
 simp only [seval,EME,eInt,eList,lit_pn]
 refine mU e (.seqK (.cond rfl (fun h33=>?_) (fun h33=>?_))) h
 refine .skip (Mir.toK (.seqK (.block (.guard fun q30=>.region fun e h=>?_))))
 simp only [seval,EME,app_31,al_ApiBlock,q30,eInt,eList,lit_pn]
 refine mU e (.region fun e h=>?_) h
 simp only [seval,EME,eInt,eList,lit_pn]
 cases h
 simp only [seval,FME,eInt,eList,lit_pn,Tryz.results32]
 refine .exit fun e h=>?_
 cases h
 simp only [seval,FME,eInt,eList,lit_pn,Tryz.results32]
 intro v27
 refine Mir.toK (.region fun e h=>?_)
 simp only [seval,EME,eInt,eList,lit_pn]
 cases h
 simp only [seval,FME,eInt,eList,lit_pn,Tryz.results32,q28]
 intro v25 q31
 refine .sR fun e h=>?_
 simp only [seval,EME,q31,eInt,eList,lit_pn]
 refine mU e (.seqK (.condF rfl (.exit fun e h=>?_))) h
 cases h
 simp only [seval,FME,eInt,eList,lit_pn,Tryz.results32]
 intro v28
 refine Mir.toK (.sR fun e h=>?_)
 simp only [seval,EME,eInt,eList,lit_pn]
 refine mU e (.ret fun e h=>?_) h
 cases h
 simp only [seval,FME,eInt,eList,lit_pn,Tryz.results32]
 simp only [seval,EME,w_none,w_eq,eInt,eList,lit_pn]
 refine mU e (.regionW fun e h=>regW.alt 6 rfl ?_) h
 simp only [seval,EME,w_none,w_eq,fld_119_4,sz_115,ag_115,eInt,eList,lit_pn]
 refine alt_mapUpdate (et := 31) rfl rfl rfl rfl (by simp only [mapT,und_115,und_2]) (regW.of ?_)
 simp only [seval,EME,w_none,w_eq,mp_L,eInt,eList,lit_pn]
 cases h
 simp only [seval,FME,eInt,eList,lit_pn,Tryz.results32]
 refine .skip fun e h=>?_
 cases h
 simp only [seval,FME,eInt,eList,lit_pn,Tryz.results32]
 intro v30
 refine Mir.toK (.seqK (.sR fun e h=>?_))
 simp only [seval,EME,und_31,eInt,eList,lit_pn]
 refine mU e (.cond rfl (fun h34=>?_) (fun h34=>?_)) h
 refine .exit fun e h=>?_
 cases h
 simp only [seval,FME,eInt,eList,lit_pn,Tryz.results32]
 refine .skip (Mir.toK (.sR fun e h=>?_))
 simp only [seval,EME,eInt,eList,lit_pn]
 refine mU e (.block (Mir.loop (fun v31 : (List ApiBlock) × Int=>([.ptr 8 0,U,U,U,U,.own 0 (List.map encApiBlock v31.1),U,U,U,U,U,U,.d (.list (List.map encApiBlock v30.1)),U,.d (.list (List.map encApiBlock a0.Main)),.d (.int .i64 (a0.Main.length : Int)),.d (.int .i64 (i8 : Int)),U,U,U,U,U,U,U,U,U,U,U,U,U,U,U,U,U,U,U,U,U,U,U,U,U,U,U,U,U,U,U,U,U,U,U,U,U,U,U,U,U,U,U,U,.d (.int .i64 y7.2.1),.d (.int .i64 v31.2)] ++ us 7)) (fun v31=>⟨[[.d (.list (List.map encApiBlock a0.Main)),.d (.list (List.map encSubprogramSub a0.Subs))],[.d (.list (List.map encApiBlock a0.Main)),.d (.list (List.map encSubprogramSub a0.Subs))],[.d (.list (List.map encApiBlock a0.Main)),.d (.list (List.map encSubprogramSub a0.Subs))],[.mapc .i64 (List.map (ekv (evL encApiBlock)) v23.2.1)],[.mapc .i64 (List.map (ekv (evI .i64)) v23.2.2.1)],[.mapc .i64 (List.map (ekv (evI .i64)) v23.2.2.2.1)],[.mapc .i64 (List.map (ekv (evI .i64)) v23.2.2.2.2)],[.mapc .i64 (List.map (ekv (evL encApiBlock)) v30.2)],[.mp 3,.mp 4,.mp 5,.mp 6,.mp 7],[.d (.bool e8.Skip),.d (.list (List.map encApiWord e8.Words)),.d (.str e8.Comment)]],[(48,v31.1.length)]⟩) (fun _=>rfl) (by simp only [seval,FME,eInt,eList,lit_pn]) (by simp only [seval,FME,eInt,eList,lit_pn]) fun v31=>.sR fun e h=>?_)) h
 simp only [seval,EME,eInt,eList,lit_pn]
 refine mU e (.seqK (.cond rfl (fun h35=>?_) (fun h35=>?_))) h
 refine .skip (Mir.toK (.seqK (.block (.guard fun q32=>.region fun e h=>?_))))
 simp only [seval,EME,app_31,al_ApiBlock,q32,eInt,eList,lit_pn]
 refine mU e (.region fun e h=>?_) h
 simp only [seval,EME,eInt,eList,lit_pn]
 cases h
 simp only [seval,FME,eInt,eList,lit_pn,Tryz.results32]
 refine .exit fun e h=>?_
 cases h
 simp only [seval,FME,eInt,eList,lit_pn,Tryz.results32]
 intro v32
 refine Mir.toK (.region fun e h=>?_)
 simp only [seval,EME,eInt,eList,lit_pn]
 cases h
 simp only [seval,FME,eInt,eList,lit_pn,Tryz.results32,q25]
 intro v24 q33
 refine .sR fun e h=>?_
 simp only [seval,EME,q33,eInt,eList,lit_pn]
 refine mU e (.seqK (.condF rfl (.exit fun e h=>?_))) h
 cases h
 simp only [seval,FME,eInt,eList,lit_pn,Tryz.results32]
 intro v33
 refine Mir.toK (.sR fun e h=>?_)
 simp only [seval,EME,eInt,eList,lit_pn]
 refine mU e (.ret fun e h=>?_) h
 cases h
 simp only [seval,FME,eInt,eList,lit_pn,Tryz.results32]
 simp only [seval,EME,und_31,eInt,eList,lit_pn]
 refine mU e (.gh [.slot 7 48] rfl (Mir.joinO (fun v36 : (List ApiBlock)=>([U,U,U,U,U,U,U,.own 1 (List.map encApiBlock v36)] ++ us 30)) (fun v36=>⟨[[.d (.list (List.map encApiBlock a0.Main)),.d (.list (List.map encSubprogramSub a0.Subs))],[.d (.list (List.map encApiBlock a0.Main)),.d (.list (List.map encSubprogramSub a0.Subs))],[.d (.list (List.map encApiBlock a0.Main)),.d (.list (List.map encSubprogramSub a0.Subs))],[.mapc .i64 (List.map (ekv (evL encApiBlock)) v23.2.1)],[.mapc .i64 (List.map (ekv (evI .i64)) v23.2.2.1)],[.mapc .i64 (List.map (ekv (evI .i64)) v23.2.2.2.1)],[.mapc .i64 (List.map (ekv (evI .i64)) v23.2.2.2.2)],[.mapc .i64 (List.map (ekv (evL encApiBlock)) v34.2)],[.mp 3,.mp 4,.mp 5,.mp 6,.mp 7]],[(48,v34.1.length),(48,v36.length)]⟩) (fun _=>rfl) ?_ ?_)) h
 refine .block (.guard fun q34=>Mir.range (fun (i10 : Nat) (v35 : (List ApiBlock))=>([U,U,U,U,U,U,U,.own 1 (List.map encApiBlock v35),U,U,U,U,U,U,U,U,U,U,U,U,U,U,.own 0 (List.map encApiBlock v34.1),.d (.int .i64 (v34.1.length : Int)),.d (.int .i64 (i10 : Int))] ++ us 13)) (fun i10 v35=>⟨[[.d (.list (List.map encApiBlock a0.Main)),.d (.list (List.map encSubprogramSub a0.Subs))],[.d (.list (List.map encApiBlock a0.Main)),.d (.list (List.map encSubprogramSub a0.Subs))],[.d (.list (List.map encApiBlock a0.Main)),.d (.list (List.map encSubprogramSub a0.Subs))],[.mapc .i64 (List.map (ekv (evL encApiBlock)) v23.2.1)],[.mapc .i64 (List.map (ekv (evI .i64)) v23.2.2.1)],[.mapc .i64 (List.map (ekv (evI .i64)) v23.2.2.2.1)],[.mapc .i64 (List.map (ekv (evI .i64)) v23.2.2.2.2)],[.mapc .i64 (List.map (ekv (evL encApiBlock)) v34.2)],[.mp 3,.mp 4,.mp 5,.mp 6,.mp 7]],[(48,v34.1.length),(48,v35.length)]⟩) q34 (fun _ _=>rfl) (by simp only [seval,FME,eInt,eList,lit_pn,zNI]) (by simp only [seval,FME,eInt,eList,lit_pn,zNI]) ?_ ?_)
 intro i10 e10 v35 q35
 refine .sR fun e h=>?_
 simp only [seval,EME,q35,eInt,eList,lit_pn]
 refine mU e (.seqK (.condT rfl (.skip (Mir.toK (.seqK (.block (.sR fun e h=>?_))))))) h
 simp only [seval,EME,und_31,sz_48,q35,Int.toNat_natCast,ag_48,zero_48,eInt,eList,lit_pn]
 refine mU e (.seqK (.bind fun y9 h36=>.region fun e h=>?_)) h
 simp only [seval,EME,fld_48_1,sz_46,ag_46,eInt,eList,lit_pn]
 refine SpecS.by (slices_Clone_api_Word_api_Word_spec h36) (by simp only [seval,FME,eInt,eList,lit_pn]) ?_
 simp only [seval,EME,fld_48_1,sz_46,eInt,eList,lit_pn]
 refine mU e (.guard fun q36=>.region fun e h=>?_) h
 simp only [seval,EME,ag_48,sz_48,und_31,zero_48,(oL 3),app_31,al_ApiBlock,q36,eInt,eList,lit_pn]
 refine mU e (.region fun e h=>?_) h
 simp only [seval,EME,eInt,eList,lit_pn]
 cases h
 simp only [seval,FME,eInt,eList,lit_pn,Tryz.results8,q35]
 intro v35 q37
 refine .sR fun e h=>?_
 simp only [seval,EME,q37,eInt,eList,lit_pn]
 refine mU e (.seqK (.condF rfl (.exit fun e h=>?_))) h
 cases h
 simp only [seval,FME,eInt,eList,lit_pn,Tryz.results8]
 intro v36
 refine Mir.toK (.sR fun e h=>?_)
 simp only [seval,EME,eInt,eList,lit_pn]
 refine mU e (.ret fun e h=>?_) h
 cases h
 simp only [seval,FME,eInt,eList,lit_pn,Tryz.results8]
end Go.Proofs.YtjgngikiglhleaaGreatDoor
