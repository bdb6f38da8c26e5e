import Derived.Test.YtejknolljjpodaaGreatDoorGx
import Derived.Test.YtejknolljjpodaaGreatDoorTy
import Derived.Test.YtejknolljjpodaaGreatDoorGz
import Derived.Test.YtejknolljjpodaaGreatDoorSzb
import Derived.Test.YtejknolljjpodaaGreatDoorMB
import Derived.Test.YtejknolljjpodaaGreatDoorMV
namespace Go.Proofs.YtejknolljjpodaaGreatDoor
open Go.RowKit
open Nat renaming reduceAdd → nA, reduceSub → nS, reduceMul → nM, reduceEqDiff → nE, reduceLeDiff → nL, reduceLT → nT, reduceBEq → nB
open Int renaming reduceLT → iT, reduceToNat → iN, reduceEq → iE
set_option linter.unusedVariables false
set_option linter.unusedSimpArgs false
set_option maxRecDepth 100000
set_option maxHeartbeats 8000000
structure R42State where
 Motion : Int
 Distance : Int
 Work : Int
 Length : Int
 Return : Int
 Feed : Int
 Tool : Int
 Offset : Int
 deriving DecidableEq
def encR42State (x : R42State) : List D := [.int .i64 x.Motion, .int .i64 x.Distance, .int .i64 x.Work, .int .i64 x.Length, .int .i64 x.Return, .int .i64 x.Feed, .int .i64 x.Tool, .int .i64 x.Offset]
structure R43Sub where
 Number : Int
 Blocks : (List ApiBlock)
 deriving DecidableEq
def encR43Sub (x : R43Sub) : List D := [.int .i64 x.Number, .list (List.map encApiBlock x.Blocks)]
structure R43Program where
 Main : (List ApiBlock)
 Subs : (List R43Sub)
 deriving DecidableEq
def encR43Program (x : R43Program) : List D := [.list (List.map encApiBlock x.Main), .list (List.map encR43Sub x.Subs)]
theorem ENMW : type_of% (And.intro @encR42State.eq_1 <| And.intro @encR43Sub.eq_1 <| @encR43Program.eq_1) := And.intro @encR42State.eq_1 <| And.intro @encR43Sub.eq_1 <| @encR43Program.eq_1
theorem EMW : type_of% (And.intro @SE <| And.intro @ENMW <| @ENMB) := And.intro @SE <| And.intro @ENMW <| @ENMB
theorem FMW : type_of% (And.intro @SF <| And.intro @ENMW <| @ENMB) := And.intro @SF <| And.intro @ENMW <| @ENMB
def r46_Few (a0 : (List ApiStage)) (a1 : Int) : Option Bool := if (decide ((a0.length : Int) > 4)) = true then some false else bindX (guardO (okIdx a0) ( rangeX (fun (i1 : Nat) (e1 : ApiStage) (v1 : Unit) => if (decide ((e1.Moves.length : Int) > a1)) = true then some (.ret (.ret false)) else some (.go ())) (fun (v1 : Unit) => some (.go ())) a0 0 ())) fun (v2 : Unit) => some true
theorem r46_Few_spec {a0 : (List ApiStage)} {a1 : Int} {y : Bool} (h : r46_Few a0 a1 = some y) : Spec gP 18 [.d (.list (List.map encApiStage a0)), .d (.int .i64 a1)] (.d (.bool y)) := by
 refine spec_mir Tryz.func18 rfl (by kernel_rfl) (by kernel_rfl) (fun y : Bool => .d (.bool y)) ?_ h
 unfold r46_Few
 simp only [List.replicate, List.length, nS, nA, Tryz.ntmps18, SV]
 refine .sR fun e h=>?_
 simp only [seval,EMW]
 refine mU e (.seqK (.sR fun e h=>?_)) h
 simp only [seval,EMW,und_47]
 refine mU e (.cond rfl (fun hb2=>?_) (fun hb2=>?_)) h
 refine .sR fun e h=>?_
 simp only [seval,EMW]
 refine mU e (.ret fun e h=>?_) h
 cases h
 simp only [seval,FMW,Tryz.results18]
 refine .skip (Mir.toK (.seqK (.sR fun e h=>?_)))
 simp only [seval,EMW]
 refine mU e (Mir.join (fun v2 : Unit=>(us 23)) (fun v2=>⟨[],[]⟩) (fun _=>rfl) ?_ ?_) h
 refine .block (.guard fun qg53=>Mir.range (fun (i1 : Nat) (v1 : Unit)=>([.d (.list (List.map encApiStage a0)),.d (.int .i64 a1),U,U,U,.d (.int .i64 (i1 : Int))] ++ us 17)) (fun i1 v1=>⟨[],[]⟩) qg53 (fun _ _=>rfl) (by simp only [seval,FMW,zNI]) (by simp only [seval,FMW,zNI]) ?_ ?_)
 intro i1 e1 v1 qr51
 refine .seqK (.sR fun e h=>?_)
 simp only [seval,EMW,und_47,qr51]
 refine mU e (.condT rfl (.skip (Mir.toK (.seqK (.block (.sR fun e h=>?_)))))) h
 simp only [seval,EMW,und_47,sz_83,qr51,Int.toNat_natCast,fld_83_1,sz_81,ag_81,und_81]
 refine mU e (.cond rfl (fun hb56=>?_) (fun hb56=>?_)) h
 refine .sR fun e h=>?_
 simp only [seval,EMW]
 refine mU e (.ret fun e h=>?_) h
 cases h
 simp only [seval,FMW,Tryz.results18]
 refine .skip (Mir.toB (Mir.toK (.region fun e h=>?_)))
 simp only [seval,EMW]
 cases h
 simp only [seval,FMW,Tryz.results18,qr51]
 intro v1 qd52
 refine .seqK (.sR fun e h=>?_)
 simp only [seval,EMW,und_47,qd52]
 refine mU e (.condF rfl (.exit fun e h=>?_)) h
 cases h
 simp only [seval,FMW,Tryz.results18]
 intro v2
 refine Mir.toK (.sR fun e h=>?_)
 simp only [seval,EMW]
 refine mU e (.ret fun e h=>?_) h
 cases h
 simp only [seval,FMW,Tryz.results18]
def r46_far (a0 : Int) : Option Bool := some ((decide (a0 > 10000000)) || (decide (a0 < (-10000000))))
theorem r46_far_spec {a0 : Int} {y : Bool} (h : r46_far a0 = some y) : Spec gP 88 [.d (.int .i64 a0)] (.d (.bool y)) := by
 refine spec_mir Tryz.func88 rfl (by kernel_rfl) (by kernel_rfl) (fun y : Bool => .d (.bool y)) ?_ h
 unfold r46_far
 simp only [List.replicate, List.length, nS, nA, Tryz.ntmps88, SV]
 refine .sR fun e h=>?_
 simp only [seval,EMW]
 refine mU e (.seqK (.joinV ([U,U,.d (.bool ((decide (a0 > 10000000)) || (decide (a0 < (-10000000)))))] ++ us 6) ⟨[],[]⟩ rfl ?_ ?_)) h
 refine SWs.region ?_
 rcases Bool.eq_false_or_eq_true (decide (a0 > 10000000)) with hb1 | hb1
 simp only [seval,EMW,SL,PB,hb1]
 simp only [seval,EMW,SL,PB,hb1]
 refine Mir.toK (.ret fun e h=>?_)
 cases h
 simp only [seval,FMW,Tryz.results88]
def r46_Plain (a0 : (List ApiStage)) (a1 : ApiPos) (a2 : R46Options) : Option ((List ApiBlock) × Int) := bindO (r46_Valid a2) fun (y1 : Int) => if (y1 != 0) = true then some ([], y1) else bindO (bindO (r46_far a1.X) fun (y2 : Bool) => if y2 = true then some true else bindO (r46_far a1.Y) fun (y3 : Bool) => if y3 = true then some true else bindO (r46_far a1.Z) fun (y4 : Bool) => some y4) fun (v1 : Bool) => if v1 = true then some ([], 11) else bindO (r46_word 71 0) fun (y5 : ApiWord) => bindO (r46_word 71 90000) fun (y6 : ApiWord) => bindO (r46_word 71 a2.Work) fun (y7 : ApiWord) => bindO (r46_word 71 49000) fun (y8 : ApiWord) => bindO (r46_word 71 98000) fun (y9 : ApiWord) => bindO (r46_line [y5, y6, y7, y8, y9]) fun (y10 : ApiBlock) => bindX (guardO (okIdx a0) ( rangeX (fun (i1 : Nat) (e1 : ApiStage) (v2 : (List ApiBlock) × ApiPos) => bindX (bindO (r46_Change e1.Tool) fun (y11 : (List ApiBlock) × Int) => if (y11.2 != 0) = true then some (.ret (.ret (.ret ([], y11.2)))) else guardO (okLen (v2.1.length + y11.1.length)) ( loopX (fun (v3 : (List ApiBlock) × Int × ApiPos) => if (decide (v3.2.1 < (e1.Moves.length : Int))) = true then bindO (gt e1.Moves v3.2.1) fun (e2 : ApiMove) => bindO (r46_Move v3.2.2 e2) fun (y12 : ApiBlock × Int) => if (y12.2 != 0) = true then some (.ret (.ret (.ret (.ret ([], y12.2))))) else guardO (okLen (v3.1.length + 1)) ( some (.go (v3.1 ++ [y12.1], IntKind.i64.wrap (v3.2.1 + 1), e2.To))) else some (.ret (.go (v3.1, v3.2.2)))) fuel (v2.1 ++ y11.1, 0, v2.2))) fun (v4 : (List ApiBlock) × ApiPos) => some (.go (v4.1, v4.2))) (fun (v2 : (List ApiBlock) × ApiPos) => some (.go (v2.1, v2.2))) a0 0 ([y10], a1))) fun (v5 : (List ApiBlock) × ApiPos) => bindO (r46_word 71 49000) fun (y13 : ApiWord) => bindO (r46_line [y13]) fun (y14 : ApiBlock) => bindO (r46_word 77 30000) fun (y15 : ApiWord) => bindO (r46_line [y15]) fun (y16 : ApiBlock) => guardO (okLen (v5.1.length + 2)) ( some (v5.1 ++ [y14, y16], 0))
theorem r46_Plain_spec {a0 : (List ApiStage)} {a1 : ApiPos} {a2 : R46Options} {y : (List ApiBlock) × Int} (h : r46_Plain a0 a1 a2 = some y) : Spec gP 45 [.d (.list (List.map encApiStage a0)), .agg [.d (.int .i64 a1.X), .d (.int .i64 a1.Y), .d (.int .i64 a1.Z)], .agg [.d (.int .i64 a2.Work), .d (.bool a2.Compress), .d (.int .i64 a2.Numbers), .d (.int .i64 a2.Fold)]] (.tuple [.d (.list (List.map encApiBlock y.1)), .d (.int .i64 y.2)]) := by
 refine spec_mir Tryz.func45 rfl (by kernel_rfl) (by kernel_rfl) (fun y : (List ApiBlock) × Int => .tuple [.d (.list (List.map encApiBlock y.1)), .d (.int .i64 y.2)]) ?_ h
 unfold r46_Plain
 simp only [List.replicate, List.length, nS, nA, Tryz.ntmps45, SV]
 refine .sR fun e h=>?_
 simp only [seval,EMW]
 refine mU e (.seqK (.seqK (.bind fun y1 hy1=>.region fun e h=>?_))) h
 simp only [seval,EMW,ag_38,sz_38]
 refine SpecS.by (r46_Valid_spec hy1) (by simp only [seval,FMW]) ?_
 simp only [seval,EMW]
 refine mU e (.sR fun e h=>?_) h
 simp only [seval,EMW]
 refine mU e (.cond rfl (fun hb3=>?_) (fun hb3=>?_)) h
 refine .sR fun e h=>?_
 simp only [seval,EMW]
 refine mU e (.ret fun e h=>?_) h
 cases h
 simp only [seval,FMW,Tryz.results45]
 refine .skip (Mir.toK (.seqK (.seqK (Mir.joinO (fun v1 : Bool=>([.d (.list (List.map encApiStage a0)),U,U,U,.ptr 0 0,.ptr 1 0,U,U,U,U,U,U,U,U,U,U,U,U,U,U,U,U,U,U,U,U,U,U,U,U,U,U,U,U,.d (.bool v1)] ++ us 80)) (fun v1=>⟨[[.d (.int .i64 a1.X),.d (.int .i64 a1.Y),.d (.int .i64 a1.Z)],[.d (.int .i64 a2.Work),.d (.bool a2.Compress),.d (.int .i64 a2.Numbers),.d (.int .i64 a2.Fold)]],[]⟩) (fun _=>rfl) ?_ ?_))))
 refine .bind fun y2 hy4=>.ite (fun hb5=>?_) (fun hb5=>?_)
 refine .region fun e h=>?_
 simp only [seval,EMW,fld_23_0,sz_2,ag_2,hb5]
 refine SpecS.by (r46_far_spec hy4) (by simp only [seval,FMW,hb5]) ?_
 simp only [seval,EMW,hb5]
 cases h
 simp only [seval,FMW,hb5]
 refine .bind fun y3 hy6=>.ite (fun hb7=>?_) (fun hb7=>?_)
 refine .region fun e h=>?_
 simp only [seval,EMW,fld_23_0,sz_2,ag_2,hb5,hb7]
 refine SpecS.by (r46_far_spec hy4) (by simp only [seval,FMW,hb5,hb7]) ?_
 simp only [seval,EMW,fld_23_1,sz_2,ag_2,hb5,hb7]
 refine SpecS.by (r46_far_spec hy6) (by simp only [seval,FMW,hb5,hb7]) ?_
 simp only [seval,EMW,hb5,hb7]
 cases h
 simp only [seval,FMW,hb5,hb7]
 refine .bind fun y4 hy8=>.region fun e h=>?_
 simp only [seval,EMW,fld_23_0,sz_2,ag_2,hb5,hb7]
 refine SpecS.by (r46_far_spec hy4) (by simp only [seval,FMW,hb5,hb7]) ?_
 simp only [seval,EMW,fld_23_1,sz_2,ag_2,hb5,hb7]
 refine SpecS.by (r46_far_spec hy6) (by simp only [seval,FMW,hb5,hb7]) ?_
 simp only [seval,EMW,fld_23_2,sz_2,ag_2,hb5,hb7]
 refine SpecS.by (r46_far_spec hy8) (by simp only [seval,FMW,hb5,hb7]) ?_
 simp only [seval,EMW,hb5,hb7]
 cases h
 simp only [seval,FMW,hb5,hb7]
 intro v1
 refine Mir.toK (.cond rfl (fun hb10=>?_) (fun hb10=>?_))
 refine .sR fun e h=>?_
 simp only [seval,EMW]
 refine mU e (.ret fun e h=>?_) h
 cases h
 simp only [seval,FMW,Tryz.results45]
 refine .skip (Mir.toK (.seqK (.bind fun y5 hy11=>.bind fun y6 hy12=>.bind fun y7 hy13=>.bind fun y8 hy14=>.bind fun y9 hy15=>.bind fun y10 hy16=>.regionT 4 [] (by kernel_rfl) fun e h=>?_)))
 simp only [seval,EMW,w_none,w_eq,SB]
 refine Spec.by (r46_word_spec hy11) (by simp only [seval,FMW]) ?_
 simp only [seval,EMW,w_none,w_eq,SB]
 refine Spec.by (r46_word_spec hy12) (by simp only [seval,FMW]) ?_
 simp only [seval,EMW,w_none,w_eq,SB,fld_38_0,sz_2,ag_2]
 refine regW.alt 5 rfl ?_
 simp only [seval,EMW,w_none,w_eq]
 refine SpecS.by (r46_word_spec hy13) (by simp only [seval,FMW]) ?_
 simp only [seval,EMW,w_none,w_eq]
 refine SpecS.by (r46_word_spec hy14) (by simp only [seval,FMW]) ?_
 simp only [seval,EMW,w_none,w_eq]
 refine SpecS.by (r46_word_spec hy15) (by simp only [seval,FMW]) ?_
 simp only [seval,EMW,w_none,w_eq,und_29,sz_77,zero_77,(oL 10)]
 refine SpecS.byF (r46_line_specF hy16) (by simp only [seval,FMW]) ?_
 simp only [seval,EMW,w_none,w_eq]
 refine alt_litOwn (es := List.map encApiBlock [y10]) app_39 (by simp only [seval,EMW,und_39,sz_31,zero_31,(oL 3)]) (by decide) (regW.of ?_)
 simp only [seval,EMW,w_none,w_eq,und_39,sz_31,zero_31,(oL 3)]
 refine mU e (.sR fun e h=>?_) h
 simp only [seval,EMW,ag_23,sz_23,zero_23]
 refine mU e (.seqK (.sR fun e h=>?_)) h
 simp only [seval,EMW]
 refine mU e (Mir.join (fun v5 : (List ApiBlock) × ApiPos=>([U,U,U,U,U,U,U,U,U,.own 0 (List.map encApiBlock v5.1)] ++ us 105)) (fun v5=>⟨[[.d (.int .i64 a1.X),.d (.int .i64 a1.Y),.d (.int .i64 a1.Z)],[.d (.int .i64 a2.Work),.d (.bool a2.Compress),.d (.int .i64 a2.Numbers),.d (.int .i64 a2.Fold)],[.d (.int .i64 v5.2.X),.d (.int .i64 v5.2.Y),.d (.int .i64 v5.2.Z)]],[(31,v5.1.length)]⟩) (fun _=>rfl) ?_ ?_) h
 refine .block (.guard fun q1=>Mir.range (fun (i1 : Nat) (v2 : (List ApiBlock) × ApiPos)=>([.d (.list (List.map encApiStage a0)),U,U,U,U,U,U,U,U,.own 0 (List.map encApiBlock v2.1),.ptr 2 0,.d (.int .i64 (i1 : Int))] ++ us 103)) (fun i1 v2=>⟨[[.d (.int .i64 a1.X),.d (.int .i64 a1.Y),.d (.int .i64 a1.Z)],[.d (.int .i64 a2.Work),.d (.bool a2.Compress),.d (.int .i64 a2.Numbers),.d (.int .i64 a2.Fold)],[.d (.int .i64 v2.2.X),.d (.int .i64 v2.2.Y),.d (.int .i64 v2.2.Z)]],[(31,v2.1.length)]⟩) q1 (fun _ _=>rfl) (by simp only [seval,FMW,zNI]) (by simp only [seval,FMW,zNI]) ?_ ?_)
 intro i1 e1 v2 q2
 refine .seqK (.sR fun e h=>?_)
 simp only [seval,EMW,und_47,q2]
 refine mU e (.condT rfl (.skip (Mir.toK (.seqK (Mir.join (fun v4 : (List ApiBlock) × ApiPos=>([.d (.list (List.map encApiStage a0)),U,U,U,U,U,U,U,U,.own 0 (List.map encApiBlock v4.1),.ptr 2 0,.d (.int .i64 (i1 : Int))] ++ us 103)) (fun v4=>⟨[[.d (.int .i64 a1.X),.d (.int .i64 a1.Y),.d (.int .i64 a1.Z)],[.d (.int .i64 a2.Work),.d (.bool a2.Compress),.d (.int .i64 a2.Numbers),.d (.int .i64 a2.Fold)],[.d (.int .i64 v4.2.X),.d (.int .i64 v4.2.Y),.d (.int .i64 v4.2.Z)]],[(31,v4.1.length)]⟩) (fun _=>rfl) ?_ ?_))))) h
 refine .block (.seqK (.bind fun y11 h1=>.region fun e h=>?_))
 simp only [seval,EMW,und_47,sz_83,q2,Int.toNat_natCast,fld_83_0,sz_3,ag_3]
 refine SpecS.by (r46_Change_spec h1) (by simp only [seval,FMW]) ?_
 simp only [seval,EMW]
 refine mU e (.seqK (.sR fun e h=>?_)) h
 simp only [seval,EMW]
 refine mU e (.cond rfl (fun h2=>?_) (fun h2=>?_)) h
 refine .sR fun e h=>?_
 simp only [seval,EMW]
 refine mU e (.ret fun e h=>?_) h
 cases h
 simp only [seval,FMW,Tryz.results45]
 refine .skip (Mir.toK (.seqK (.guard fun q3=>.region fun e h=>?_)))
 simp only [seval,EMW,app_39,al_ApiBlock,q3]
 refine mU e (.sR fun e h=>?_) h
 simp only [seval,EMW]
 refine mU e (.block (Mir.loop (fun v3 : (List ApiBlock) × Int × ApiPos=>([.d (.list (List.map encApiStage a0)),U,U,U,U,U,U,U,U,.own 0 (List.map encApiBlock v3.1),.ptr 2 0,.d (.int .i64 (i1 : Int)),U,U,.d (.int .i64 v3.2.1)] ++ us 100)) (fun v3=>⟨[[.d (.int .i64 a1.X),.d (.int .i64 a1.Y),.d (.int .i64 a1.Z)],[.d (.int .i64 a2.Work),.d (.bool a2.Compress),.d (.int .i64 a2.Numbers),.d (.int .i64 a2.Fold)],[.d (.int .i64 v3.2.2.X),.d (.int .i64 v3.2.2.Y),.d (.int .i64 v3.2.2.Z)]],[(31,v3.1.length)]⟩) (fun _=>rfl) (by simp only [seval,FMW]) (by simp only [seval,FMW]) fun v3=>.seqK (.sR fun e h=>?_))) h
 simp only [seval,EMW,und_47,sz_83,q2,Int.toNat_natCast,fld_83_1,sz_81,ag_81,und_81]
 refine mU e (.cond rfl (fun h3=>?_) (fun h3=>?_)) h
 refine .skip (Mir.toK (.seqK (.block (.seqK (.bind fun e2 q4=>?_)))))
 replace q4 := gt_ok q4
 refine .bind fun y12 h4=>.regionD [] (by kernel_rfl) fun e h=>?_
 simp only [seval,EMW,SB,ag_23,sz_23,und_47,sz_83,q2,Int.toNat_natCast,fld_83_1,sz_81,ag_81,und_81,sz_27,q4,ag_27]
 refine Spec.by (r46_Move_spec h4) (by simp only [seval,FMW]) ?_
 simp only [seval,EMW,SB,zero_31,sz_31]
 refine mU e (.seqK (.sR fun e h=>?_)) h
 simp only [seval,EMW]
 refine mU e (.cond rfl (fun h5=>?_) (fun h5=>?_)) h
 refine .sR fun e h=>?_
 simp only [seval,EMW]
 refine mU e (.ret fun e h=>?_) h
 cases h
 simp only [seval,FMW,Tryz.results45]
 refine .skip (Mir.toK (.guard fun q5=>.regionD [] (by kernel_rfl) fun e h=>?_))
 simp only [seval,EMW,SB,ag_31,sz_31,und_39,zero_31,(oL 3),app_39,al_ApiBlock,q5,und_47,sz_83,q2,Int.toNat_natCast,fld_83_1,sz_81,ag_81,und_81,sz_27,q4,fld_27_1,sz_23,ag_23]
 refine mU e (.region fun e h=>?_) h
 simp only [seval,EMW]
 cases h
 simp only [seval,FMW,Tryz.results45]
 refine .exit fun e h=>?_
 cases h
 simp only [seval,FMW,Tryz.results45]
 intro v4
 refine Mir.toK (.region fun e h=>?_)
 simp only [seval,EMW]
 cases h
 simp only [seval,FMW,Tryz.results45,q2]
 intro v2 q6
 refine .seqK (.sR fun e h=>?_)
 simp only [seval,EMW,und_47,q6]
 refine mU e (.condF rfl (.exit fun e h=>?_)) h
 cases h
 simp only [seval,FMW,Tryz.results45]
 intro v5
 refine Mir.toK (.seqK (.bind fun y13 h6=>.bind fun y14 h7=>.bind fun y15 h8=>.bind fun y16 h9=>.guard fun q7=>.region fun e h=>?_))
 simp only [seval,EMW]
 refine SpecS.by (r46_word_spec h6) (by simp only [seval,FMW]) ?_
 simp only [seval,EMW,und_29,sz_77,zero_77,(oL 2)]
 refine SpecS.byF (r46_line_specF h7) (by simp only [seval,FMW]) ?_
 simp only [seval,EMW]
 refine SpecS.by (r46_word_spec h8) (by simp only [seval,FMW]) ?_
 simp only [seval,EMW,und_29,sz_77,zero_77,(oL 2)]
 refine SpecS.byF (r46_line_specF h9) (by simp only [seval,FMW]) ?_
 simp only [seval,EMW,und_39,sz_31,zero_31,(oL 6),app_39,al_ApiBlock,q7]
 refine mU e (.ret fun e h=>?_) h
 cases h
 simp only [seval,FMW,Tryz.results45]
def r42_New  : Option R42State := some (R42State.mk 0 90000 54000 49000 98000 0 0 0)
theorem r42_New_spec  {y : R42State} (h : r42_New = some y) : Spec gP 47 [] (.agg [.d (.int .i64 y.Motion), .d (.int .i64 y.Distance), .d (.int .i64 y.Work), .d (.int .i64 y.Length), .d (.int .i64 y.Return), .d (.int .i64 y.Feed), .d (.int .i64 y.Tool), .d (.int .i64 y.Offset)]) := by
 refine spec_mir Tryz.func47 rfl (by kernel_rfl) (by kernel_rfl) (fun y : R42State => .agg [.d (.int .i64 y.Motion), .d (.int .i64 y.Distance), .d (.int .i64 y.Work), .d (.int .i64 y.Length), .d (.int .i64 y.Return), .d (.int .i64 y.Feed), .d (.int .i64 y.Tool), .d (.int .i64 y.Offset)]) ?_ h
 unfold r42_New
 simp only [List.replicate, List.length, nS, nA, Tryz.ntmps47, SV]
 refine .sR fun e h=>?_
 simp only [seval,EMW,zero_89]
 refine mU e (.sR fun e h=>?_) h
 simp only [seval,EMW,zero_89,pl_89,sz_89]
 refine mU e (.ret fun e h=>?_) h
 cases h
 simp only [seval,FMW,Tryz.results47,ag_89,sz_89]
def r42_class (a0 : ApiWord) : Option Int := if (a0.Letter == 71) = true then bindO (r42_Group a0.Value) fun (y1 : Int) => some y1 else some (IntKind.i64.wrap (10 + (IntKind.i64.wrap a0.Letter)))
theorem r42_class_spec {a0 : ApiWord} {y : Int} (h : r42_class a0 = some y) : Spec gP 147 [.agg [.d (.int .u8 a0.Letter), .d (.int .i64 a0.Value)]] (.d (.int .i64 y)) := by
 refine spec_mir Tryz.func147 rfl (by kernel_rfl) (by kernel_rfl) (fun y : Int => .d (.int .i64 y)) ?_ h
 unfold r42_class
 simp only [List.replicate, List.length, nS, nA, Tryz.ntmps147, SV]
 refine .sR fun e h=>?_
 simp only [seval,EMW]
 refine mU e (.seqK (.sR fun e h=>?_)) h
 simp only [seval,EMW,fld_77_0,sz_5,ag_5]
 refine mU e (.cond rfl (fun hb3=>?_) (fun hb3=>?_)) h
 refine .seqK (.bind fun y1 hy4=>.region fun e h=>?_)
 simp only [seval,EMW,fld_77_1,sz_2,ag_2]
 refine SpecS.by (r42_Group_spec hy4) (by simp only [seval,FMW]) ?_
 simp only [seval,EMW]
 refine mU e (.ret fun e h=>?_) h
 cases h
 simp only [seval,FMW,Tryz.results147]
 refine .skip (Mir.toK (.sR fun e h=>?_))
 simp only [seval,EMW,fld_77_0,sz_5,ag_5,und_5,und_3]
 refine mU e (.ret fun e h=>?_) h
 cases h
 simp only [seval,FMW,Tryz.results147]
def r42_whole (a0 : ApiWord) : Option Bool := if (a0.Letter == 70) = true then some (decide (a0.Value ≥ 0)) else bindO (if (a0.Letter == 84) = true then some (a0.Letter == 84) else some (a0.Letter == 72)) fun (v1 : Bool) => if v1 = true then some ((decide (a0.Value ≥ 0)) && ((Int.tmod a0.Value 1000) == 0)) else some true
theorem r42_whole_spec {a0 : ApiWord} {y : Bool} (h : r42_whole a0 = some y) : Spec gP 148 [.agg [.d (.int .u8 a0.Letter), .d (.int .i64 a0.Value)]] (.d (.bool y)) := by
 refine spec_mir Tryz.func148 rfl (by kernel_rfl) (by kernel_rfl) (fun y : Bool => .d (.bool y)) ?_ h
 unfold r42_whole
 simp only [List.replicate, List.length, nS, nA, Tryz.ntmps148, SV]
 refine .sR fun e h=>?_
 simp only [seval,EMW]
 refine mU e (.seqK (.sR fun e h=>?_)) h
 simp only [seval,EMW,fld_77_0,sz_5,ag_5]
 refine mU e (.block (.sR fun e h=>?_)) h
 simp only [seval,EMW]
 refine mU e (.cond rfl (fun hb11=>?_) (fun hb11=>?_)) h
 refine .sR fun e h=>?_
 simp only [seval,EMW,fld_77_1,sz_2,ag_2]
 refine mU e (.ret fun e h=>?_) h
 cases h
 simp only [seval,FMW,Tryz.results148]
 refine .seqK (.sR fun e h=>?_)
 simp only [seval,EMW]
 refine mU e (Mir.joinO (fun v1 : Bool=>([U,.ptr 0 0,U,U,U,U,U,U,U,U,.d (.bool v1)] ++ us 11)) (fun v1=>⟨[[.d (.int .u8 a0.Letter),.d (.int .i64 a0.Value)]],[]⟩) (fun _=>rfl) ?_ ?_) h
 refine .cond rfl (fun hb13=>?_) (fun hb13=>?_)
 refine .skip fun e h=>?_
 cases h
 simp only [seval,FMW,Tryz.results148]
 refine .region fun e h=>?_
 simp only [seval,EMW]
 cases h
 simp only [seval,FMW,Tryz.results148]
 intro v1
 refine Mir.toK (.cond rfl (fun hb16=>?_) (fun hb16=>?_))
 refine .seqK (.joinV ([U,U,.d (.bool ((decide (a0.Value ≥ 0)) && ((Int.tmod a0.Value 1000) == 0)))] ++ us 19) ⟨[[.d (.int .u8 a0.Letter),.d (.int .i64 a0.Value)]],[]⟩ rfl ?_ ?_)
 refine SWs.region ?_
 rcases Bool.eq_false_or_eq_true (decide (a0.Value ≥ 0)) with hb17 | hb17
 simp only [seval,EMW,SL,PB,fld_77_1,sz_2,ag_2,hb17]
 simp only [seval,EMW,SL,PB,fld_77_1,sz_2,ag_2,hb17]
 refine Mir.toK (.ret fun e h=>?_)
 cases h
 simp only [seval,FMW,Tryz.results148]
 refine .skip (Mir.toB (Mir.toK (.sR fun e h=>?_)))
 simp only [seval,EMW]
 refine mU e (.ret fun e h=>?_) h
 cases h
 simp only [seval,FMW,Tryz.results148]
def r42_Check (a0 : ApiBlock) : Option Int := bindX (guardO (okIdx a0.Words) ( rangeX (fun (i1 : Nat) (e1 : ApiWord) (v1 : Unit) => bindX (bindO (r42_class e1) fun (y1 : Int) => bindO (if (y1 == 0) = true then some true else bindO (r42_whole e1) fun (y2 : Bool) => some (!y2)) fun (v2 : Bool) => if v2 = true then some (.ret (.ret (.ret 1))) else loopX (fun (v3 : Int) => if (decide (v3 < (i1 : Int))) = true then bindO (gt a0.Words v3) fun (e2 : ApiWord) => bindO (r42_class e2) fun (y3 : Int) => if (y3 == y1) = true then some (.ret (.ret (.ret (.ret 1)))) else some (.go (IntKind.i64.wrap (v3 + 1))) else some (.ret (.go ()))) fuel 0) fun (v4 : Unit) => some (.go ())) (fun (v1 : Unit) => some (.go ())) a0.Words 0 ())) fun (v5 : Unit) => some 0
theorem r42_Check_spec {a0 : ApiBlock} {y : Int} (h : r42_Check a0 = some y) : Spec gP 126 [.agg [.d (.bool a0.Skip), .d (.list (List.map encApiWord a0.Words)), .d (.str a0.Comment)]] (.d (.int .i64 y)) := by
 refine spec_mir Tryz.func126 rfl (by kernel_rfl) (by kernel_rfl) (fun y : Int => .d (.int .i64 y)) ?_ h
 unfold r42_Check
 simp only [List.replicate, List.length, nS, nA, Tryz.ntmps126, SV]
 refine .sR fun e h=>?_
 simp only [seval,EMW]
 refine mU e (.seqK (.sR fun e h=>?_)) h
 simp only [seval,EMW]
 refine mU e (Mir.join (fun v5 : Unit=>(us 43)) (fun v5=>⟨[[.d (.bool a0.Skip),.d (.list (List.map encApiWord a0.Words)),.d (.str a0.Comment)]],[]⟩) (fun _=>rfl) ?_ ?_) h
 refine .block (.guard fun q1=>Mir.range (fun (i1 : Nat) (v1 : Unit)=>([U,.ptr 0 0,U,.d (.int .i64 (i1 : Int))] ++ us 39)) (fun i1 v1=>⟨[[.d (.bool a0.Skip),.d (.list (List.map encApiWord a0.Words)),.d (.str a0.Comment)]],[]⟩) q1 (fun _ _=>rfl) (by simp only [seval,FMW,zNI]) (by simp only [seval,FMW,zNI]) ?_ ?_)
 intro i1 e1 v1 q2
 refine .seqK (.sR fun e h=>?_)
 simp only [seval,EMW,fld_31_1,sz_29,ag_29,und_29,q2]
 refine mU e (.condT rfl (.skip (Mir.toK (.seqK (Mir.join (fun v4 : Unit=>([U,.ptr 0 0,U,.d (.int .i64 (i1 : Int))] ++ us 39)) (fun v4=>⟨[[.d (.bool a0.Skip),.d (.list (List.map encApiWord a0.Words)),.d (.str a0.Comment)]],[]⟩) (fun _=>rfl) ?_ ?_))))) h
 refine .block (.seqK (.bind fun y1 h1=>.region fun e h=>?_))
 simp only [seval,EMW,fld_31_1,sz_29,ag_29,und_29,sz_77,q2,Int.toNat_natCast,ag_77]
 refine SpecS.by (r42_class_spec h1) (by simp only [seval,FMW]) ?_
 simp only [seval,EMW]
 refine mU e (.seqK (.seqK (Mir.joinO (fun v2 : Bool=>([U,.ptr 0 0,U,.d (.int .i64 (i1 : Int)),.d (.int .i64 y1),U,U,U,U,U,U,U,U,U,U,U,U,U,U,U,U,U,U,U,U,U,U,U,U,.d (.bool v2)] ++ us 13)) (fun v2=>⟨[[.d (.bool a0.Skip),.d (.list (List.map encApiWord a0.Words)),.d (.str a0.Comment)]],[]⟩) (fun _=>rfl) ?_ ?_))) h
 refine .ite (fun h2=>?_) (fun h2=>?_)
 refine .region fun e h=>?_
 simp only [seval,EMW,h2]
 cases h
 simp only [seval,FMW,h2]
 refine .bind fun y2 h3=>.region fun e h=>?_
 simp only [seval,EMW,fld_31_1,sz_29,ag_29,und_29,sz_77,q2,Int.toNat_natCast,ag_77,h2]
 refine SpecS.by (r42_whole_spec h3) (by simp only [seval,FMW,h2]) ?_
 simp only [seval,EMW,h2]
 cases h
 simp only [seval,FMW,h2]
 intro v2
 refine Mir.toK (.cond rfl (fun h4=>?_) (fun h4=>?_))
 refine .sR fun e h=>?_
 simp only [seval,EMW]
 refine mU e (.ret fun e h=>?_) h
 cases h
 simp only [seval,FMW,Tryz.results126]
 refine .skip (Mir.toK (.sR fun e h=>?_))
 simp only [seval,EMW]
 refine mU e (.block (Mir.loop (fun v3 : Int=>([U,.ptr 0 0,U,.d (.int .i64 (i1 : Int)),.d (.int .i64 y1),.d (.int .i64 v3)] ++ us 37)) (fun v3=>⟨[[.d (.bool a0.Skip),.d (.list (List.map encApiWord a0.Words)),.d (.str a0.Comment)]],[]⟩) (fun _=>rfl) (by simp only [seval,FMW]) (by simp only [seval,FMW]) fun v3=>.seqK (.sR fun e h=>?_))) h
 simp only [seval,EMW]
 refine mU e (.cond rfl (fun h5=>?_) (fun h5=>?_)) h
 refine .skip (Mir.toK (.seqK (.block (.seqK (.bind fun e2 q3=>?_)))))
 replace q3 := gt_ok q3
 refine .bind fun y3 h6=>.region fun e h=>?_
 simp only [seval,EMW,fld_31_1,sz_29,ag_29,und_29,sz_77,q3,ag_77]
 refine SpecS.by (r42_class_spec h6) (by simp only [seval,FMW]) ?_
 simp only [seval,EMW]
 refine mU e (.cond rfl (fun h7=>?_) (fun h7=>?_)) h
 refine .sR fun e h=>?_
 simp only [seval,EMW]
 refine mU e (.ret fun e h=>?_) h
 cases h
 simp only [seval,FMW,Tryz.results126]
 refine .skip (Mir.toB (Mir.toK (.region fun e h=>?_)))
 simp only [seval,EMW]
 cases h
 simp only [seval,FMW,Tryz.results126]
 refine .exit fun e h=>?_
 cases h
 simp only [seval,FMW,Tryz.results126]
 intro v4
 refine Mir.toK (.region fun e h=>?_)
 simp only [seval,EMW]
 cases h
 simp only [seval,FMW,Tryz.results126,q2]
 intro v1 q4
 refine .seqK (.sR fun e h=>?_)
 simp only [seval,EMW,fld_31_1,sz_29,ag_29,und_29,q4]
 refine mU e (.condF rfl (.exit fun e h=>?_)) h
 cases h
 simp only [seval,FMW,Tryz.results126]
 intro v5
 refine Mir.toK (.sR fun e h=>?_)
 simp only [seval,EMW]
 refine mU e (.ret fun e h=>?_) h
 cases h
 simp only [seval,FMW,Tryz.results126]
def r42_one (a0 : R42State) (a1 : ApiWord) : Option R42State := bindO (if (a1.Letter == 70) = true then some (R42State.mk a0.Motion a0.Distance a0.Work a0.Length a0.Return a1.Value a0.Tool a0.Offset) else if (a1.Letter == 84) = true then some (R42State.mk a0.Motion a0.Distance a0.Work a0.Length a0.Return a0.Feed a1.Value a0.Offset) else if (a1.Letter == 72) = true then some (R42State.mk a0.Motion a0.Distance a0.Work a0.Length a0.Return a0.Feed a0.Tool a1.Value) else if (a1.Letter == 71) = true then bindO (r42_Group a1.Value) fun (y1 : Int) => if (y1 == 1) = true then some (R42State.mk a1.Value a0.Distance a0.Work a0.Length a0.Return a0.Feed a0.Tool a0.Offset) else if (y1 == 2) = true then some (R42State.mk a0.Motion a1.Value a0.Work a0.Length a0.Return a0.Feed a0.Tool a0.Offset) else if (y1 == 3) = true then some (R42State.mk a0.Motion a0.Distance a1.Value a0.Length a0.Return a0.Feed a0.Tool a0.Offset) else if (y1 == 4) = true then some (R42State.mk a0.Motion a0.Distance a0.Work a1.Value a0.Return a0.Feed a0.Tool a0.Offset) else if (y1 == 5) = true then some (R42State.mk a0.Motion a0.Distance a0.Work a0.Length a1.Value a0.Feed a0.Tool a0.Offset) else some a0 else some a0) fun (v1 : R42State) => some v1
theorem r42_one_spec {a0 : R42State} {a1 : ApiWord} {y : R42State} (h : r42_one a0 a1 = some y) : Spec gP 125 [.agg [.d (.int .i64 a0.Motion), .d (.int .i64 a0.Distance), .d (.int .i64 a0.Work), .d (.int .i64 a0.Length), .d (.int .i64 a0.Return), .d (.int .i64 a0.Feed), .d (.int .i64 a0.Tool), .d (.int .i64 a0.Offset)], .agg [.d (.int .u8 a1.Letter), .d (.int .i64 a1.Value)]] (.agg [.d (.int .i64 y.Motion), .d (.int .i64 y.Distance), .d (.int .i64 y.Work), .d (.int .i64 y.Length), .d (.int .i64 y.Return), .d (.int .i64 y.Feed), .d (.int .i64 y.Tool), .d (.int .i64 y.Offset)]) := by
 refine spec_mir Tryz.func125 rfl (by kernel_rfl) (by kernel_rfl) (fun y : R42State => .agg [.d (.int .i64 y.Motion), .d (.int .i64 y.Distance), .d (.int .i64 y.Work), .d (.int .i64 y.Length), .d (.int .i64 y.Return), .d (.int .i64 y.Feed), .d (.int .i64 y.Tool), .d (.int .i64 y.Offset)]) ?_ h
 unfold r42_one
 simp only [List.replicate, List.length, nS, nA, Tryz.ntmps125, SV]
 refine .sR fun e h=>?_
 simp only [seval,EMW,zero_89]
 refine mU e (.seqK (.sR fun e h=>?_)) h
 simp only [seval,EMW,fld_77_0,sz_5,ag_5]
 refine mU e (Mir.joinO (fun v1 : R42State=>([U,U,.ptr 0 0,U,.ptr 2 0] ++ us 48)) (fun v1=>⟨[[.d (.int .i64 v1.Motion),.d (.int .i64 v1.Distance),.d (.int .i64 v1.Work),.d (.int .i64 v1.Length),.d (.int .i64 v1.Return),.d (.int .i64 v1.Feed),.d (.int .i64 v1.Tool),.d (.int .i64 v1.Offset)],[.d (.int .u8 a1.Letter),.d (.int .i64 a1.Value)],[.d (.int .i64 0),.d (.int .i64 0),.d (.int .i64 0),.d (.int .i64 0),.d (.int .i64 0),.d (.int .i64 0),.d (.int .i64 0),.d (.int .i64 0)]],[]⟩) (fun _=>rfl) ?_ ?_) h
 refine .block (.sR fun e h=>?_)
 simp only [seval,EMW]
 refine mU e (.cond rfl (fun hb11=>?_) (fun hb11=>?_)) h
 refine .region fun e h=>?_
 simp only [seval,EMW,fld_77_1,sz_2,ag_2,fld_89_5]
 cases h
 simp only [seval,FMW,Tryz.results125,ag_89,sz_89]
 refine .sR fun e h=>?_
 simp only [seval,EMW]
 refine mU e (.cond rfl (fun hb12=>?_) (fun hb12=>?_)) h
 refine .region fun e h=>?_
 simp only [seval,EMW,fld_77_1,sz_2,ag_2,fld_89_6]
 cases h
 simp only [seval,FMW,Tryz.results125,ag_89,sz_89]
 refine .sR fun e h=>?_
 simp only [seval,EMW]
 refine mU e (.cond rfl (fun hb13=>?_) (fun hb13=>?_)) h
 refine .region fun e h=>?_
 simp only [seval,EMW,fld_77_1,sz_2,ag_2,fld_89_7]
 cases h
 simp only [seval,FMW,Tryz.results125,ag_89,sz_89]
 refine .sR fun e h=>?_
 simp only [seval,EMW]
 refine mU e (.cond rfl (fun hb14=>?_) (fun hb14=>?_)) h
 refine .seqK (.bind fun y1 hy15=>.region fun e h=>?_)
 simp only [seval,EMW,fld_77_1,sz_2,ag_2]
 refine SpecS.by (r42_Group_spec hy15) (by simp only [seval,FMW]) ?_
 simp only [seval,EMW]
 refine mU e (.block (.sR fun e h=>?_)) h
 simp only [seval,EMW]
 refine mU e (.cond rfl (fun hb16=>?_) (fun hb16=>?_)) h
 refine .region fun e h=>?_
 simp only [seval,EMW,fld_77_1,sz_2,ag_2,fld_89_0]
 cases h
 simp only [seval,FMW,Tryz.results125,ag_89,sz_89]
 refine .sR fun e h=>?_
 simp only [seval,EMW]
 refine mU e (.cond rfl (fun hb17=>?_) (fun hb17=>?_)) h
 refine .region fun e h=>?_
 simp only [seval,EMW,fld_77_1,sz_2,ag_2,fld_89_1]
 cases h
 simp only [seval,FMW,Tryz.results125,ag_89,sz_89]
 refine .sR fun e h=>?_
 simp only [seval,EMW]
 refine mU e (.cond rfl (fun hb18=>?_) (fun hb18=>?_)) h
 refine .region fun e h=>?_
 simp only [seval,EMW,fld_77_1,sz_2,ag_2,fld_89_2]
 cases h
 simp only [seval,FMW,Tryz.results125,ag_89,sz_89]
 refine .sR fun e h=>?_
 simp only [seval,EMW]
 refine mU e (.cond rfl (fun hb19=>?_) (fun hb19=>?_)) h
 refine .region fun e h=>?_
 simp only [seval,EMW,fld_77_1,sz_2,ag_2,fld_89_3]
 cases h
 simp only [seval,FMW,Tryz.results125,ag_89,sz_89]
 refine .sR fun e h=>?_
 simp only [seval,EMW]
 refine mU e (.cond rfl (fun hb20=>?_) (fun hb20=>?_)) h
 refine .region fun e h=>?_
 simp only [seval,EMW,fld_77_1,sz_2,ag_2,fld_89_4]
 cases h
 simp only [seval,FMW,Tryz.results125,ag_89,sz_89]
 refine .skip fun e h=>?_
 cases h
 simp only [seval,FMW,Tryz.results125,ag_89,sz_89]
 refine .skip fun e h=>?_
 cases h
 simp only [seval,FMW,Tryz.results125,ag_89,sz_89]
 intro v1
 refine Mir.toK (.sR fun e h=>?_)
 simp only [seval,EMW,ag_89,sz_89]
 refine mU e (.ret fun e h=>?_) h
 cases h
 simp only [seval,FMW,Tryz.results125,ag_89,sz_89]
def r42_Apply (a0 : R42State) (a1 : ApiBlock) : Option (R42State × Int) := bindO (r42_Check a1) fun (y1 : Int) => if (y1 != 0) = true then some (R42State.mk 0 0 0 0 0 0 0 0, y1) else bindO (guardO (okIdx a1.Words) ( rangeX (fun (i1 : Nat) (e1 : ApiWord) (v1 : R42State) => bindO (r42_one v1 e1) fun (y2 : R42State) => some (.go y2)) (fun (v1 : R42State) => some v1) a1.Words 0 a0)) fun (v2 : R42State) => some (v2, 0)
theorem r42_Apply_spec {a0 : R42State} {a1 : ApiBlock} {y : R42State × Int} (h : r42_Apply a0 a1 = some y) : Spec gP 91 [.agg [.d (.int .i64 a0.Motion), .d (.int .i64 a0.Distance), .d (.int .i64 a0.Work), .d (.int .i64 a0.Length), .d (.int .i64 a0.Return), .d (.int .i64 a0.Feed), .d (.int .i64 a0.Tool), .d (.int .i64 a0.Offset)], .agg [.d (.bool a1.Skip), .d (.list (List.map encApiWord a1.Words)), .d (.str a1.Comment)]] (.tuple [.agg [.d (.int .i64 y.1.Motion), .d (.int .i64 y.1.Distance), .d (.int .i64 y.1.Work), .d (.int .i64 y.1.Length), .d (.int .i64 y.1.Return), .d (.int .i64 y.1.Feed), .d (.int .i64 y.1.Tool), .d (.int .i64 y.1.Offset)], .d (.int .i64 y.2)]) := by
 refine spec_mir Tryz.func91 rfl (by kernel_rfl) (by kernel_rfl) (fun y : R42State × Int => .tuple [.agg [.d (.int .i64 y.1.Motion), .d (.int .i64 y.1.Distance), .d (.int .i64 y.1.Work), .d (.int .i64 y.1.Length), .d (.int .i64 y.1.Return), .d (.int .i64 y.1.Feed), .d (.int .i64 y.1.Tool), .d (.int .i64 y.1.Offset)], .d (.int .i64 y.2)]) ?_ h
 unfold r42_Apply
 simp only [List.replicate, List.length, nS, nA, Tryz.ntmps91, SV]
 refine .sR fun e h=>?_
 simp only [seval,EMW,zero_89]
 refine mU e (.seqK (.seqK (.bind fun y1 hy1=>.region fun e h=>?_))) h
 simp only [seval,EMW,ag_31,sz_31]
 refine SpecS.by (r42_Check_spec hy1) (by simp only [seval,FMW]) ?_
 simp only [seval,EMW]
 refine mU e (.sR fun e h=>?_) h
 simp only [seval,EMW]
 refine mU e (.cond rfl (fun hb3=>?_) (fun hb3=>?_)) h
 refine .sR fun e h=>?_
 simp only [seval,EMW,zero_89,pl_89,sz_89]
 refine mU e (.ret fun e h=>?_) h
 cases h
 simp only [seval,FMW,Tryz.results91,ag_89,sz_89]
 refine .skip (Mir.toK (.seqK (.sR fun e h=>?_)))
 simp only [seval,EMW]
 refine mU e (Mir.joinO (fun v2 : R42State=>([U,U,.ptr 0 0,U,.ptr 2 0] ++ us 24)) (fun v2=>⟨[[.d (.int .i64 v2.Motion),.d (.int .i64 v2.Distance),.d (.int .i64 v2.Work),.d (.int .i64 v2.Length),.d (.int .i64 v2.Return),.d (.int .i64 v2.Feed),.d (.int .i64 v2.Tool),.d (.int .i64 v2.Offset)],[.d (.bool a1.Skip),.d (.list (List.map encApiWord a1.Words)),.d (.str a1.Comment)],[.d (.int .i64 0),.d (.int .i64 0),.d (.int .i64 0),.d (.int .i64 0),.d (.int .i64 0),.d (.int .i64 0),.d (.int .i64 0),.d (.int .i64 0)]],[]⟩) (fun _=>rfl) ?_ ?_) h
 refine .block (.guard fun qg47=>Mir.range (fun (i1 : Nat) (v1 : R42State)=>([U,U,.ptr 0 0,.ptr 1 0,.ptr 2 0,U,U,.d (.int .i64 (i1 : Int))] ++ us 21)) (fun i1 v1=>⟨[[.d (.int .i64 v1.Motion),.d (.int .i64 v1.Distance),.d (.int .i64 v1.Work),.d (.int .i64 v1.Length),.d (.int .i64 v1.Return),.d (.int .i64 v1.Feed),.d (.int .i64 v1.Tool),.d (.int .i64 v1.Offset)],[.d (.bool a1.Skip),.d (.list (List.map encApiWord a1.Words)),.d (.str a1.Comment)],[.d (.int .i64 0),.d (.int .i64 0),.d (.int .i64 0),.d (.int .i64 0),.d (.int .i64 0),.d (.int .i64 0),.d (.int .i64 0),.d (.int .i64 0)]],[]⟩) qg47 (fun _ _=>rfl) (by simp only [seval,FMW,zNI]) (by simp only [seval,FMW,zNI]) ?_ ?_)
 intro i1 e1 v1 qr45
 refine .seqK (.sR fun e h=>?_)
 simp only [seval,EMW,fld_31_1,sz_29,ag_29,und_29,qr45]
 refine mU e (.condT rfl (.skip (Mir.toK (.seqK (.block (.bind fun y2 hy49=>.regionD [] (by kernel_rfl) fun e h=>?_)))))) h
 simp only [seval,EMW,SB,ag_89,sz_89,fld_31_1,sz_29,ag_29,und_29,sz_77,qr45,Int.toNat_natCast,ag_77]
 refine Spec.by (r42_one_spec hy49) (by simp only [seval,FMW]) ?_
 simp only [seval,EMW,SB,sz_89]
 refine mU e (.region fun e h=>?_) h
 simp only [seval,EMW]
 cases h
 simp only [seval,FMW,Tryz.results91,ag_89,sz_89,qr45]
 intro v1 qd46
 refine .seqK (.sR fun e h=>?_)
 simp only [seval,EMW,fld_31_1,sz_29,ag_29,und_29,qd46]
 refine mU e (.condF rfl (.exit fun e h=>?_)) h
 cases h
 simp only [seval,FMW,Tryz.results91,ag_89,sz_89]
 intro v2
 refine Mir.toK (.sR fun e h=>?_)
 simp only [seval,EMW,ag_89,sz_89]
 refine mU e (.ret fun e h=>?_) h
 cases h
 simp only [seval,FMW,Tryz.results91,ag_89,sz_89]
def r42_All (a0 : R42State) (a1 : (List ApiBlock)) : Option (R42State × Int × Int) := bindX (guardO (okIdx a1) ( rangeX (fun (i1 : Nat) (e1 : ApiBlock) (v1 : R42State) => bindO (r42_Apply v1 e1) fun (y1 : R42State × Int) => if (y1.2 != 0) = true then some (.ret (.ret (R42State.mk 0 0 0 0 0 0 0 0, (i1 : Int), y1.2))) else some (.go y1.1)) (fun (v1 : R42State) => some (.go v1)) a1 0 a0)) fun (v2 : R42State) => some (v2, 0, 0)
theorem r42_All_spec {a0 : R42State} {a1 : (List ApiBlock)} {y : R42State × Int × Int} (h : r42_All a0 a1 = some y) : Spec gP 89 [.agg [.d (.int .i64 a0.Motion), .d (.int .i64 a0.Distance), .d (.int .i64 a0.Work), .d (.int .i64 a0.Length), .d (.int .i64 a0.Return), .d (.int .i64 a0.Feed), .d (.int .i64 a0.Tool), .d (.int .i64 a0.Offset)], .d (.list (List.map encApiBlock a1))] (.tuple [.agg [.d (.int .i64 y.1.Motion), .d (.int .i64 y.1.Distance), .d (.int .i64 y.1.Work), .d (.int .i64 y.1.Length), .d (.int .i64 y.1.Return), .d (.int .i64 y.1.Feed), .d (.int .i64 y.1.Tool), .d (.int .i64 y.1.Offset)], .d (.int .i64 y.2.1), .d (.int .i64 y.2.2)]) := by
 refine spec_mir Tryz.func89 rfl (by kernel_rfl) (by kernel_rfl) (fun y : R42State × Int × Int => .tuple [.agg [.d (.int .i64 y.1.Motion), .d (.int .i64 y.1.Distance), .d (.int .i64 y.1.Work), .d (.int .i64 y.1.Length), .d (.int .i64 y.1.Return), .d (.int .i64 y.1.Feed), .d (.int .i64 y.1.Tool), .d (.int .i64 y.1.Offset)], .d (.int .i64 y.2.1), .d (.int .i64 y.2.2)]) ?_ h
 unfold r42_All
 simp only [List.replicate, List.length, nS, nA, Tryz.ntmps89, SV]
 refine .sR fun e h=>?_
 simp only [seval,EMW,zero_89]
 refine mU e (.seqK (.sR fun e h=>?_)) h
 simp only [seval,EMW]
 refine mU e (Mir.join (fun v2 : R42State=>([U,U,.ptr 0 0,U,.ptr 1 0] ++ us 27)) (fun v2=>⟨[[.d (.int .i64 v2.Motion),.d (.int .i64 v2.Distance),.d (.int .i64 v2.Work),.d (.int .i64 v2.Length),.d (.int .i64 v2.Return),.d (.int .i64 v2.Feed),.d (.int .i64 v2.Tool),.d (.int .i64 v2.Offset)],[.d (.int .i64 0),.d (.int .i64 0),.d (.int .i64 0),.d (.int .i64 0),.d (.int .i64 0),.d (.int .i64 0),.d (.int .i64 0),.d (.int .i64 0)]],[]⟩) (fun _=>rfl) ?_ ?_) h
 refine .block (.guard fun qg72=>Mir.range (fun (i1 : Nat) (v1 : R42State)=>([U,.d (.list (List.map encApiBlock a1)),.ptr 0 0,U,.ptr 1 0,U,U,.d (.int .i64 (i1 : Int))] ++ us 24)) (fun i1 v1=>⟨[[.d (.int .i64 v1.Motion),.d (.int .i64 v1.Distance),.d (.int .i64 v1.Work),.d (.int .i64 v1.Length),.d (.int .i64 v1.Return),.d (.int .i64 v1.Feed),.d (.int .i64 v1.Tool),.d (.int .i64 v1.Offset)],[.d (.int .i64 0),.d (.int .i64 0),.d (.int .i64 0),.d (.int .i64 0),.d (.int .i64 0),.d (.int .i64 0),.d (.int .i64 0),.d (.int .i64 0)]],[]⟩) qg72 (fun _ _=>rfl) (by simp only [seval,FMW,zNI]) (by simp only [seval,FMW,zNI]) ?_ ?_)
 intro i1 e1 v1 qr70
 refine .seqK (.sR fun e h=>?_)
 simp only [seval,EMW,und_39,qr70]
 refine mU e (.condT rfl (.skip (Mir.toK (.seqK (.block (.seqK (.bind fun y1 hy76=>.regionD [] (by kernel_rfl) fun e h=>?_))))))) h
 simp only [seval,EMW,SB,ag_89,sz_89,und_39,sz_31,qr70,Int.toNat_natCast,ag_31]
 refine Spec.by (r42_Apply_spec hy76) (by simp only [seval,FMW]) ?_
 simp only [seval,EMW,SB,zero_89,sz_89]
 refine mU e (.seqK (.sR fun e h=>?_)) h
 simp only [seval,EMW]
 refine mU e (.cond rfl (fun hb78=>?_) (fun hb78=>?_)) h
 refine .sR fun e h=>?_
 simp only [seval,EMW,zero_89,pl_89,sz_89]
 refine mU e (.ret fun e h=>?_) h
 cases h
 simp only [seval,FMW,Tryz.results89,ag_89,sz_89]
 refine .skip (Mir.toK (.region fun e h=>?_))
 simp only [seval,EMW,ag_89,sz_89]
 refine mU e (.region fun e h=>?_) h
 simp only [seval,EMW]
 cases h
 simp only [seval,FMW,Tryz.results89,ag_89,sz_89,qr70]
 intro v1 qd71
 refine .seqK (.sR fun e h=>?_)
 simp only [seval,EMW,und_39,qd71]
 refine mU e (.condF rfl (.exit fun e h=>?_)) h
 cases h
 simp only [seval,FMW,Tryz.results89,ag_89,sz_89]
 intro v2
 refine Mir.toK (.sR fun e h=>?_)
 simp only [seval,EMW,ag_89,sz_89]
 refine mU e (.ret fun e h=>?_) h
 cases h
 simp only [seval,FMW,Tryz.results89,ag_89,sz_89]
def r42_idle (a0 : R42State) (a1 : ApiWord) : Option Bool := if ((a1.Letter == 71) && ((decide (a1.Value ≥ 80000)) && (decide (a1.Value ≤ 83000)))) = true then some false else bindO (if ((a1.Letter == 71) || ((a1.Letter == 70) || ((a1.Letter == 84) || (a1.Letter == 72)))) = true then bindO (r42_one a0 a1) fun (y1 : R42State) => some ((y1.Motion == a0.Motion) && ((y1.Distance == a0.Distance) && ((y1.Work == a0.Work) && ((y1.Length == a0.Length) && ((y1.Return == a0.Return) && ((y1.Feed == a0.Feed) && ((y1.Tool == a0.Tool) && (y1.Offset == a0.Offset)))))))) else some false) fun (v1 : Bool) => some v1
theorem r42_idle_spec {a0 : R42State} {a1 : ApiWord} {y : Bool} (h : r42_idle a0 a1 = some y) : Spec gP 90 [.agg [.d (.int .i64 a0.Motion), .d (.int .i64 a0.Distance), .d (.int .i64 a0.Work), .d (.int .i64 a0.Length), .d (.int .i64 a0.Return), .d (.int .i64 a0.Feed), .d (.int .i64 a0.Tool), .d (.int .i64 a0.Offset)], .agg [.d (.int .u8 a1.Letter), .d (.int .i64 a1.Value)]] (.d (.bool y)) := by
 refine spec_mir Tryz.func90 rfl (by kernel_rfl) (by kernel_rfl) (fun y : Bool => .d (.bool y)) ?_ h
 unfold r42_idle
 simp only [List.replicate, List.length, nS, nA, Tryz.ntmps90, SV]
 refine .sR fun e h=>?_
 simp only [seval,EMW]
 refine mU e (.seqK (.seqK (.joinV ([U,U,.ptr 0 0,.ptr 1 0,U,U,U,U,U,U,U,U,U,U,U,U,U,U,.d (.bool ((a1.Letter == 71) && ((decide (a1.Value ≥ 80000)) && (decide (a1.Value ≤ 83000)))))] ++ us 26) ⟨[[.d (.int .i64 a0.Motion),.d (.int .i64 a0.Distance),.d (.int .i64 a0.Work),.d (.int .i64 a0.Length),.d (.int .i64 a0.Return),.d (.int .i64 a0.Feed),.d (.int .i64 a0.Tool),.d (.int .i64 a0.Offset)],[.d (.int .u8 a1.Letter),.d (.int .i64 a1.Value)]],[]⟩ rfl ?_ ?_))) h
 refine SWs.region ?_
 rcases Bool.eq_false_or_eq_true (a1.Letter == 71) with hb1 | hb1
 rcases Bool.eq_false_or_eq_true (decide (a1.Value ≥ 80000)) with hb2 | hb2
 simp only [seval,EMW,SL,PB,fld_77_0,sz_5,ag_5,fld_77_1,sz_2,ag_2,hb1,hb2]
 simp only [seval,EMW,SL,PB,fld_77_0,sz_5,ag_5,fld_77_1,sz_2,ag_2,hb1,hb2]
 simp only [seval,EMW,SL,PB,fld_77_0,sz_5,ag_5,hb1]
 refine Mir.toK (.cond rfl (fun hb4=>?_) (fun hb4=>?_))
 refine .sR fun e h=>?_
 simp only [seval,EMW]
 refine mU e (.ret fun e h=>?_) h
 cases h
 simp only [seval,FMW,Tryz.results90]
 refine .skip (Mir.toK (.seqK (.joinV ([U,U,.ptr 0 0,.ptr 1 0,U,.d (.bool ((a1.Letter == 71) || ((a1.Letter == 70) || ((a1.Letter == 84) || (a1.Letter == 72)))))] ++ us 39) ⟨[[.d (.int .i64 a0.Motion),.d (.int .i64 a0.Distance),.d (.int .i64 a0.Work),.d (.int .i64 a0.Length),.d (.int .i64 a0.Return),.d (.int .i64 a0.Feed),.d (.int .i64 a0.Tool),.d (.int .i64 a0.Offset)],[.d (.int .u8 a1.Letter),.d (.int .i64 a1.Value)]],[]⟩ rfl ?_ ?_)))
 refine SWs.region ?_
 rcases Bool.eq_false_or_eq_true (a1.Letter == 71) with hb5 | hb5
 simp only [seval,EMW,SL,PB,fld_77_0,sz_5,ag_5,hb5]
 rcases Bool.eq_false_or_eq_true (a1.Letter == 70) with hb6 | hb6
 simp only [seval,EMW,SL,PB,fld_77_0,sz_5,ag_5,hb5,hb6]
 rcases Bool.eq_false_or_eq_true (a1.Letter == 84) with hb7 | hb7
 simp only [seval,EMW,SL,PB,fld_77_0,sz_5,ag_5,hb5,hb6,hb7]
 simp only [seval,EMW,SL,PB,fld_77_0,sz_5,ag_5,hb5,hb6,hb7]
 refine Mir.toK (.seqK (Mir.joinO (fun v1 : Bool=>([U,U,U,U,.d (.bool v1)] ++ us 40)) (fun v1=>⟨[[.d (.int .i64 a0.Motion),.d (.int .i64 a0.Distance),.d (.int .i64 a0.Work),.d (.int .i64 a0.Length),.d (.int .i64 a0.Return),.d (.int .i64 a0.Feed),.d (.int .i64 a0.Tool),.d (.int .i64 a0.Offset)],[.d (.int .u8 a1.Letter),.d (.int .i64 a1.Value)]],[]⟩) (fun _=>rfl) ?_ ?_))
 refine .ite (fun hb8=>?_) (fun hb8=>?_)
 refine .bind fun y1 hy9=>.regionD [] (by kernel_rfl) fun e h=>?_
 simp only [seval,EMW,SB,ag_89,sz_89,ag_77,sz_77,hb8]
 refine Spec.by (r42_one_spec hy9) (by simp only [seval,FMW,hb8]) ?_
 simp only [seval,EMW,SB,ag_89,sz_89,gE_89,hb8]
 cases h
 simp only [seval,FMW,hb8]
 refine .regionD [] (by kernel_rfl) fun e h=>?_
 simp only [seval,EMW,SB,hb8]
 cases h
 simp only [seval,FMW,hb8]
 intro v1
 refine Mir.toK (.ret fun e h=>?_)
 cases h
 simp only [seval,FMW,Tryz.results90]
def r42_Compress (a0 : R42State) (a1 : (List ApiBlock)) : Option ((List ApiBlock) × Int) := bindO (r42_All a0 a1) fun (y1 : R42State × Int × Int) => if (y1.2.2 != 0) = true then some ([], y1.2.2) else bindO (guardO (okIdx a1) ( rangeX (fun (i1 : Nat) (e1 : ApiBlock) (v1 : (List ApiBlock) × R42State) => bindO (bindO (loopX (fun (v2 : Int × (List ApiWord)) => if (decide (v2.1 < (e1.Words.length : Int))) = true then bindO (bindO (gt e1.Words v2.1) fun (e2 : ApiWord) => bindO (r42_idle v1.2 e2) fun (y2 : Bool) => if (!y2) = true then guardO (okLen (v2.2.length + 1)) ( some (v2.2 ++ [e2])) else some v2.2) fun (v3 : (List ApiWord)) => some (.go (IntKind.i64.wrap (v2.1 + 1), v3)) else some (.ret v2.2)) fuel (0, [])) fun (v4 : (List ApiWord)) => bindO (if ((decide ((v4.length : Int) > 0)) || (e1.Skip || (!(e1.Comment == [])))) = true then guardO (okLen (v1.1.length + 1)) ( some (v1.1 ++ [ApiBlock.mk e1.Skip v4 e1.Comment])) else some v1.1) fun (v5 : (List ApiBlock)) => bindO (r42_Apply v1.2 e1) fun (y3 : R42State × Int) => some (v5, y3.1)) fun (v6 : (List ApiBlock) × R42State) => some (.go (v6.1, v6.2))) (fun (v1 : (List ApiBlock) × R42State) => some (v1.1, v1.2)) a1 0 ([], a0))) fun (v7 : (List ApiBlock) × R42State) => some (v7.1, 0)
theorem r42_Compress_spec {a0 : R42State} {a1 : (List ApiBlock)} {y : (List ApiBlock) × Int} (h : r42_Compress a0 a1 = some y) : Spec gP 46 [.agg [.d (.int .i64 a0.Motion), .d (.int .i64 a0.Distance), .d (.int .i64 a0.Work), .d (.int .i64 a0.Length), .d (.int .i64 a0.Return), .d (.int .i64 a0.Feed), .d (.int .i64 a0.Tool), .d (.int .i64 a0.Offset)], .d (.list (List.map encApiBlock a1))] (.tuple [.d (.list (List.map encApiBlock y.1)), .d (.int .i64 y.2)]) := by
 refine spec_mir Tryz.func46 rfl (by kernel_rfl) (by kernel_rfl) (fun y : (List ApiBlock) × Int => .tuple [.d (.list (List.map encApiBlock y.1)), .d (.int .i64 y.2)]) ?_ h
 unfold r42_Compress
 simp only [List.replicate, List.length, nS, nA, Tryz.ntmps46, SV]
 refine .sR fun e h=>?_
 simp only [seval,EMW]
 refine mU e (.seqK (.seqK (.bind fun y1 hy1=>.region fun e h=>?_))) h
 simp only [seval,EMW,ag_89,sz_89]
 refine SpecS.by (r42_All_spec hy1) (by simp only [seval,FMW]) ?_
 simp only [seval,EMW,zero_89,sz_89]
 refine mU e (.sR fun e h=>?_) h
 simp only [seval,EMW]
 refine mU e (.cond rfl (fun hb3=>?_) (fun hb3=>?_)) h
 refine .sR fun e h=>?_
 simp only [seval,EMW]
 refine mU e (.ret fun e h=>?_) h
 cases h
 simp only [seval,FMW,Tryz.results46]
 refine .skip (Mir.toK (.sR fun e h=>?_))
 simp only [seval,EMW]
 refine mU e (.seqK (.sR fun e h=>?_)) h
 simp only [seval,EMW]
 refine mU e (.gh [.slot 9 31] rfl (Mir.joinO (fun v7 : (List ApiBlock) × R42State=>([U,U,U,U,U,U,U,U,U,.own 0 (List.map encApiBlock v7.1)] ++ us 91)) (fun v7=>⟨[[.d (.int .i64 v7.2.Motion),.d (.int .i64 v7.2.Distance),.d (.int .i64 v7.2.Work),.d (.int .i64 v7.2.Length),.d (.int .i64 v7.2.Return),.d (.int .i64 v7.2.Feed),.d (.int .i64 v7.2.Tool),.d (.int .i64 v7.2.Offset)],[.d (.int .i64 y1.1.Motion),.d (.int .i64 y1.1.Distance),.d (.int .i64 y1.1.Work),.d (.int .i64 y1.1.Length),.d (.int .i64 y1.1.Return),.d (.int .i64 y1.1.Feed),.d (.int .i64 y1.1.Tool),.d (.int .i64 y1.1.Offset)]],[(31,v7.1.length)]⟩) (fun _=>rfl) ?_ ?_)) h
 refine .block (.guard fun q1=>Mir.range (fun (i1 : Nat) (v1 : (List ApiBlock) × R42State)=>([U,.d (.list (List.map encApiBlock a1)),.ptr 0 0,U,U,U,U,U,U,.own 0 (List.map encApiBlock v1.1),.d (.int .i64 (i1 : Int))] ++ us 90)) (fun i1 v1=>⟨[[.d (.int .i64 v1.2.Motion),.d (.int .i64 v1.2.Distance),.d (.int .i64 v1.2.Work),.d (.int .i64 v1.2.Length),.d (.int .i64 v1.2.Return),.d (.int .i64 v1.2.Feed),.d (.int .i64 v1.2.Tool),.d (.int .i64 v1.2.Offset)],[.d (.int .i64 y1.1.Motion),.d (.int .i64 y1.1.Distance),.d (.int .i64 y1.1.Work),.d (.int .i64 y1.1.Length),.d (.int .i64 y1.1.Return),.d (.int .i64 y1.1.Feed),.d (.int .i64 y1.1.Tool),.d (.int .i64 y1.1.Offset)]],[(31,v1.1.length)]⟩) q1 (fun _ _=>rfl) (by simp only [seval,FMW,zNI]) (by simp only [seval,FMW,zNI]) ?_ ?_)
 intro i1 e1 v1 q2
 refine .seqK (.sR fun e h=>?_)
 simp only [seval,EMW,und_39,q2]
 refine mU e (.condT rfl (.skip (Mir.toK (.seqK (Mir.joinO (fun v6 : (List ApiBlock) × R42State=>([U,.d (.list (List.map encApiBlock a1)),.ptr 0 0,U,U,U,U,U,U,.own 0 (List.map encApiBlock v6.1),.d (.int .i64 (i1 : Int))] ++ us 90)) (fun v6=>⟨[[.d (.int .i64 v6.2.Motion),.d (.int .i64 v6.2.Distance),.d (.int .i64 v6.2.Work),.d (.int .i64 v6.2.Length),.d (.int .i64 v6.2.Return),.d (.int .i64 v6.2.Feed),.d (.int .i64 v6.2.Tool),.d (.int .i64 v6.2.Offset)],[.d (.int .i64 y1.1.Motion),.d (.int .i64 y1.1.Distance),.d (.int .i64 y1.1.Work),.d (.int .i64 y1.1.Length),.d (.int .i64 y1.1.Return),.d (.int .i64 y1.1.Feed),.d (.int .i64 y1.1.Tool),.d (.int .i64 y1.1.Offset)]],[(31,v6.1.length)]⟩) (fun _=>rfl) ?_ ?_))))) h
 refine .block (.seqK (.regionD [] (by kernel_rfl) fun e h=>?_))
 simp only [seval,EMW,SB,und_39,sz_31,q2,Int.toNat_natCast,fld_31_0,sz_4,ag_4,fld_31_2,sz_9,ag_9,zero_31,pl_31]
 refine mU e (.seqK (.sR fun e h=>?_)) h
 simp only [seval,EMW]
 refine mU e (.gh [.cell 2 1 77] rfl (Mir.joinO (fun v4 : (List ApiWord)=>([U,.d (.list (List.map encApiBlock a1)),.ptr 0 0,U,U,U,U,U,U,.own 0 (List.map encApiBlock v1.1),.d (.int .i64 (i1 : Int)),.ptr 2 0] ++ us 89)) (fun v4=>⟨[[.d (.int .i64 v1.2.Motion),.d (.int .i64 v1.2.Distance),.d (.int .i64 v1.2.Work),.d (.int .i64 v1.2.Length),.d (.int .i64 v1.2.Return),.d (.int .i64 v1.2.Feed),.d (.int .i64 v1.2.Tool),.d (.int .i64 v1.2.Offset)],[.d (.int .i64 y1.1.Motion),.d (.int .i64 y1.1.Distance),.d (.int .i64 y1.1.Work),.d (.int .i64 y1.1.Length),.d (.int .i64 y1.1.Return),.d (.int .i64 y1.1.Feed),.d (.int .i64 y1.1.Tool),.d (.int .i64 y1.1.Offset)],[.d (.bool e1.Skip),.own 1 (List.map encApiWord v4),.d (.str e1.Comment)]],[(31,v1.1.length),(77,v4.length)]⟩) (fun _=>rfl) ?_ ?_)) h
 refine .block (Mir.loop (fun v2 : Int × (List ApiWord)=>([U,.d (.list (List.map encApiBlock a1)),.ptr 0 0,U,U,U,U,U,U,.own 0 (List.map encApiBlock v1.1),.d (.int .i64 (i1 : Int)),.ptr 2 0,.d (.int .i64 v2.1)] ++ us 88)) (fun v2=>⟨[[.d (.int .i64 v1.2.Motion),.d (.int .i64 v1.2.Distance),.d (.int .i64 v1.2.Work),.d (.int .i64 v1.2.Length),.d (.int .i64 v1.2.Return),.d (.int .i64 v1.2.Feed),.d (.int .i64 v1.2.Tool),.d (.int .i64 v1.2.Offset)],[.d (.int .i64 y1.1.Motion),.d (.int .i64 y1.1.Distance),.d (.int .i64 y1.1.Work),.d (.int .i64 y1.1.Length),.d (.int .i64 y1.1.Return),.d (.int .i64 y1.1.Feed),.d (.int .i64 y1.1.Tool),.d (.int .i64 y1.1.Offset)],[.d (.bool e1.Skip),.own 1 (List.map encApiWord v2.2),.d (.str e1.Comment)]],[(31,v1.1.length),(77,v2.2.length)]⟩) (fun _=>rfl) (by simp only [seval,FMW]) (by simp only [seval,FMW]) fun v2=>.seqK (.sR fun e h=>?_))
 simp only [seval,EMW,und_39,sz_31,q2,Int.toNat_natCast,fld_31_1,sz_29,ag_29,und_29]
 refine mU e (.cond rfl (fun h1=>?_) (fun h1=>?_)) h
 refine .skip (Mir.toK (.seqK (Mir.joinO (fun v3 : (List ApiWord)=>([U,.d (.list (List.map encApiBlock a1)),.ptr 0 0,U,U,U,U,U,U,.own 0 (List.map encApiBlock v1.1),.d (.int .i64 (i1 : Int)),.ptr 2 0,.d (.int .i64 v2.1)] ++ us 88)) (fun v3=>⟨[[.d (.int .i64 v1.2.Motion),.d (.int .i64 v1.2.Distance),.d (.int .i64 v1.2.Work),.d (.int .i64 v1.2.Length),.d (.int .i64 v1.2.Return),.d (.int .i64 v1.2.Feed),.d (.int .i64 v1.2.Tool),.d (.int .i64 v1.2.Offset)],[.d (.int .i64 y1.1.Motion),.d (.int .i64 y1.1.Distance),.d (.int .i64 y1.1.Work),.d (.int .i64 y1.1.Length),.d (.int .i64 y1.1.Return),.d (.int .i64 y1.1.Feed),.d (.int .i64 y1.1.Tool),.d (.int .i64 y1.1.Offset)],[.d (.bool e1.Skip),.own 1 (List.map encApiWord v3),.d (.str e1.Comment)]],[(31,v1.1.length),(77,v3.length)]⟩) (fun _=>rfl) ?_ ?_)))
 refine .block (.seqK (.bind fun e2 q3=>?_))
 replace q3 := gt_ok q3
 refine .bind fun y2 h2=>.regionD [] (by kernel_rfl) fun e h=>?_
 simp only [seval,EMW,SB,ag_89,sz_89,und_39,sz_31,q2,Int.toNat_natCast,fld_31_1,sz_29,ag_29,und_29,sz_77,q3,ag_77]
 refine Spec.by (r42_idle_spec h2) (by simp only [seval,FMW]) ?_
 simp only [seval,EMW,SB]
 refine mU e (.cond rfl (fun h3=>?_) (fun h3=>?_)) h
 refine .guard fun q4=>.regionD [] (by kernel_rfl) fun e h=>?_
 simp only [seval,EMW,SB,fld_31_1,sz_29,ag_29,und_39,sz_31,q2,Int.toNat_natCast,und_29,sz_77,q3,ag_77,zero_77,(oL 2),app_29,al_ApiWord,q4]
 cases h
 simp only [seval,FMW,Tryz.results46]
 refine .skip fun e h=>?_
 cases h
 simp only [seval,FMW,Tryz.results46]
 intro v3
 refine Mir.toK (.region fun e h=>?_)
 simp only [seval,EMW]
 cases h
 simp only [seval,FMW,Tryz.results46]
 refine .exit fun e h=>?_
 cases h
 simp only [seval,FMW,Tryz.results46]
 intro v4
 refine Mir.toK (.seqK (.seqK (.joinV ([U,.d (.list (List.map encApiBlock a1)),.ptr 0 0,U,U,U,U,U,U,.own 0 (List.map encApiBlock v1.1),.d (.int .i64 (i1 : Int)),.ptr 2 0,U,U,U,U,U,U,U,U,U,U,U,U,U,U,U,U,U,U,U,U,U,U,U,U,U,U,U,U,U,U,U,U,U,U,U,U,U,U,U,U,U,U,U,U,U,U,U,U,U,U,U,U,U,U,U,U,U,U,U,U,U,U,U,U,U,U,U,U,U,U,U,U,U,U,.d (.bool ((decide ((v4.length : Int) > 0)) || (e1.Skip || (!(e1.Comment == [])))))] ++ us 14) ⟨[[.d (.int .i64 v1.2.Motion),.d (.int .i64 v1.2.Distance),.d (.int .i64 v1.2.Work),.d (.int .i64 v1.2.Length),.d (.int .i64 v1.2.Return),.d (.int .i64 v1.2.Feed),.d (.int .i64 v1.2.Tool),.d (.int .i64 v1.2.Offset)],[.d (.int .i64 y1.1.Motion),.d (.int .i64 y1.1.Distance),.d (.int .i64 y1.1.Work),.d (.int .i64 y1.1.Length),.d (.int .i64 y1.1.Return),.d (.int .i64 y1.1.Feed),.d (.int .i64 y1.1.Tool),.d (.int .i64 y1.1.Offset)],[.d (.bool e1.Skip),.own 1 (List.map encApiWord v4),.d (.str e1.Comment)]],[(31,v1.1.length),(77,v4.length)]⟩ rfl ?_ ?_)))
 refine SWs.region ?_
 rcases Bool.eq_false_or_eq_true (decide ((v4.length : Int) > 0)) with h4 | h4
 simp only [seval,EMW,SL,PB,fld_31_1,sz_29,ag_29,und_29,h4]
 rcases Bool.eq_false_or_eq_true (e1.Skip) with h5 | h5
 simp only [seval,EMW,SL,PB,fld_31_1,sz_29,ag_29,und_29,fld_31_0,sz_4,ag_4,h4,h5]
 simp only [seval,EMW,SL,PB,fld_31_1,sz_29,ag_29,und_29,fld_31_0,sz_4,ag_4,fld_31_2,sz_9,ag_9,h4,h5]
 refine Mir.toK (Mir.joinO (fun v5 : (List ApiBlock)=>([U,.d (.list (List.map encApiBlock a1)),.ptr 0 0,U,U,U,U,U,U,.own 0 (List.map encApiBlock v5),.d (.int .i64 (i1 : Int))] ++ us 90)) (fun v5=>⟨[[.d (.int .i64 v1.2.Motion),.d (.int .i64 v1.2.Distance),.d (.int .i64 v1.2.Work),.d (.int .i64 v1.2.Length),.d (.int .i64 v1.2.Return),.d (.int .i64 v1.2.Feed),.d (.int .i64 v1.2.Tool),.d (.int .i64 v1.2.Offset)],[.d (.int .i64 y1.1.Motion),.d (.int .i64 y1.1.Distance),.d (.int .i64 y1.1.Work),.d (.int .i64 y1.1.Length),.d (.int .i64 y1.1.Return),.d (.int .i64 y1.1.Feed),.d (.int .i64 y1.1.Tool),.d (.int .i64 y1.1.Offset)],[.d (.bool e1.Skip),.own 1 (List.map encApiWord v4),.d (.str e1.Comment)]],[(31,v5.length),(77,v4.length)]⟩) (fun _=>rfl) ?_ ?_)
 refine .cond rfl (fun h6=>?_) (fun h6=>?_)
 refine .guard fun q5=>.region fun e h=>?_
 simp only [seval,EMW,ag_31,sz_31,und_39,zero_31,(oL 3),app_39,al_ApiBlock,q5]
 cases h
 simp only [seval,FMW,Tryz.results46]
 refine .skip fun e h=>?_
 cases h
 simp only [seval,FMW,Tryz.results46]
 intro v5
 refine Mir.toK (.bind fun y3 h7=>.regionD [] (by kernel_rfl) fun e h=>?_)
 simp only [seval,EMW,SB,ag_89,sz_89,und_39,sz_31,q2,Int.toNat_natCast,ag_31]
 refine Spec.by (r42_Apply_spec h7) (by simp only [seval,FMW]) ?_
 simp only [seval,EMW,SB,sz_89]
 cases h
 simp only [seval,FMW,Tryz.results46]
 intro v6
 refine Mir.toK (.region fun e h=>?_)
 simp only [seval,EMW]
 cases h
 simp only [seval,FMW,Tryz.results46,q2]
 intro v1 q6
 refine .seqK (.sR fun e h=>?_)
 simp only [seval,EMW,und_39,q6]
 refine mU e (.condF rfl (.exit fun e h=>?_)) h
 cases h
 simp only [seval,FMW,Tryz.results46]
 intro v7
 refine Mir.toK (.sR fun e h=>?_)
 simp only [seval,EMW]
 refine mU e (.ret fun e h=>?_) h
 cases h
 simp only [seval,FMW,Tryz.results46]
def r41_Codes (a0 : ApiBlock) (a1 : Int) : Option (List Int) := bindO (guardO (okIdx a0.Words) ( rangeX (fun (i1 : Nat) (e1 : ApiWord) (v1 : (List Int)) => bindO (if (e1.Letter == a1) = true then guardO (okLen (v1.length + 1)) ( some (v1 ++ [e1.Value])) else some v1) fun (v2 : (List Int)) => some (.go v2)) (fun (v1 : (List Int)) => some v1) a0.Words 0 [])) fun (v3 : (List Int)) => some v3
theorem r41_Codes_spec {a0 : ApiBlock} {a1 : Int} {y : (List Int)} (h : r41_Codes a0 a1 = some y) : Spec gP 93 [.agg [.d (.bool a0.Skip), .d (.list (List.map encApiWord a0.Words)), .d (.str a0.Comment)], .d (.int .u8 a1)] (.d (.list (List.map (eInt .i64) y))) := by
 refine spec_mir Tryz.func93 rfl (by kernel_rfl) (by kernel_rfl) (fun y : (List Int) => .d (.list (List.map (eInt .i64) y))) ?_ h
 unfold r41_Codes
 simp only [List.replicate, List.length, nS, nA, Tryz.ntmps93, SV]
 refine .sR fun e h=>?_
 simp only [seval,EMW,eInt]
 refine mU e (.sR fun e h=>?_) h
 simp only [seval,EMW,eInt]
 refine mU e (.seqK (.sR fun e h=>?_)) h
 simp only [seval,EMW,eInt]
 refine mU e (.gh [.slot 5 2] rfl (Mir.joinO (fun v3 : (List Int)=>([U,U,U,U,U,.own 0 (List.map (eInt .i64) v3)] ++ us 26)) (fun v3=>⟨[[.d (.bool a0.Skip),.d (.list (List.map encApiWord a0.Words)),.d (.str a0.Comment)]],[(2,v3.length)]⟩) (fun _=>rfl) ?_ ?_)) h
 refine .block (.guard fun qg91=>Mir.range (fun (i1 : Nat) (v1 : (List Int))=>([U,.d (.int .u8 a1),.ptr 0 0,U,U,.own 0 (List.map (eInt .i64) v1),.d (.int .i64 (i1 : Int))] ++ us 25)) (fun i1 v1=>⟨[[.d (.bool a0.Skip),.d (.list (List.map encApiWord a0.Words)),.d (.str a0.Comment)]],[(2,v1.length)]⟩) qg91 (fun _ _=>rfl) (by simp only [seval,FMW,eInt,zNI]) (by simp only [seval,FMW,eInt,zNI]) ?_ ?_)
 intro i1 e1 v1 qr89
 refine .seqK (.sR fun e h=>?_)
 simp only [seval,EMW,fld_31_1,sz_29,ag_29,und_29,qr89,eInt]
 refine mU e (.condT rfl (.skip (Mir.toK (.seqK (Mir.joinO (fun v2 : (List Int)=>([U,.d (.int .u8 a1),.ptr 0 0,U,U,.own 0 (List.map (eInt .i64) v2),.d (.int .i64 (i1 : Int))] ++ us 25)) (fun v2=>⟨[[.d (.bool a0.Skip),.d (.list (List.map encApiWord a0.Words)),.d (.str a0.Comment)]],[(2,v2.length)]⟩) (fun _=>rfl) ?_ ?_))))) h
 refine .block (.sR fun e h=>?_)
 simp only [seval,EMW,fld_31_1,sz_29,ag_29,und_29,sz_77,qr89,Int.toNat_natCast,fld_77_0,sz_5,ag_5,eInt]
 refine mU e (.cond rfl (fun hb94=>?_) (fun hb94=>?_)) h
 refine .guard fun q95=>.region fun e h=>?_
 simp only [seval,EMW,fld_31_1,sz_29,ag_29,und_29,sz_77,qr89,Int.toNat_natCast,fld_77_1,sz_2,ag_2,und_121,zero_2,(oL 1),app_121,al_eInt,q95,eInt]
 cases h
 simp only [seval,FMW,eInt,Tryz.results93]
 refine .skip fun e h=>?_
 cases h
 simp only [seval,FMW,eInt,Tryz.results93]
 intro v2
 refine Mir.toK (.region fun e h=>?_)
 simp only [seval,EMW,eInt]
 cases h
 simp only [seval,FMW,eInt,Tryz.results93,qr89]
 intro v1 qd90
 refine .seqK (.sR fun e h=>?_)
 simp only [seval,EMW,fld_31_1,sz_29,ag_29,und_29,qd90,eInt]
 refine mU e (.condF rfl (.exit fun e h=>?_)) h
 cases h
 simp only [seval,FMW,eInt,Tryz.results93]
 intro v3
 refine Mir.toK (.sR fun e h=>?_)
 simp only [seval,EMW,eInt]
 refine mU e (.ret fun e h=>?_) h
 cases h
 simp only [seval,FMW,eInt,Tryz.results93]
def r43_letter (a0 : ApiBlock) (a1 : Int) : Option Bool := bindO (r41_Codes a0 a1) fun (y1 : (List Int)) => some (decide ((y1.length : Int) > 0))
theorem r43_letter_spec {a0 : ApiBlock} {a1 : Int} {y : Bool} (h : r43_letter a0 a1 = some y) : Spec gP 149 [.agg [.d (.bool a0.Skip), .d (.list (List.map encApiWord a0.Words)), .d (.str a0.Comment)], .d (.int .u8 a1)] (.d (.bool y)) := by
 refine spec_mir Tryz.func149 rfl (by kernel_rfl) (by kernel_rfl) (fun y : Bool => .d (.bool y)) ?_ h
 unfold r43_letter
 simp only [List.replicate, List.length, nS, nA, Tryz.ntmps149, SV]
 refine .sR fun e h=>?_
 simp only [seval,EMW]
 refine mU e (.seqK (.bind fun y1 hy1=>.region fun e h=>?_)) h
 simp only [seval,EMW,ag_31,sz_31]
 refine SpecS.by (r41_Codes_spec hy1) (by simp only [seval,FMW]) ?_
 simp only [seval,EMW,und_121]
 refine mU e (.ret fun e h=>?_) h
 cases h
 simp only [seval,FMW,Tryz.results149]
def r43_has (a0 : ApiBlock) (a1 : Int) (a2 : Int) : Option Bool := bindX (guardO (okIdx a0.Words) ( rangeX (fun (i1 : Nat) (e1 : ApiWord) (v1 : Unit) => if ((e1.Letter == a1) && (e1.Value == a2)) = true then some (.ret (.ret true)) else some (.go ())) (fun (v1 : Unit) => some (.go ())) a0.Words 0 ())) fun (v2 : Unit) => some false
theorem r43_has_spec {a0 : ApiBlock} {a1 : Int} {a2 : Int} {y : Bool} (h : r43_has a0 a1 a2 = some y) : Spec gP 128 [.agg [.d (.bool a0.Skip), .d (.list (List.map encApiWord a0.Words)), .d (.str a0.Comment)], .d (.int .u8 a1), .d (.int .i64 a2)] (.d (.bool y)) := by
 refine spec_mir Tryz.func128 rfl (by kernel_rfl) (by kernel_rfl) (fun y : Bool => .d (.bool y)) ?_ h
 unfold r43_has
 simp only [List.replicate, List.length, nS, nA, Tryz.ntmps128, SV]
 refine .sR fun e h=>?_
 simp only [seval,EMW]
 refine mU e (.seqK (.sR fun e h=>?_)) h
 simp only [seval,EMW]
 refine mU e (Mir.join (fun v2 : Unit=>(us 33)) (fun v2=>⟨[[.d (.bool a0.Skip),.d (.list (List.map encApiWord a0.Words)),.d (.str a0.Comment)]],[]⟩) (fun _=>rfl) ?_ ?_) h
 refine .block (.guard fun qg65=>Mir.range (fun (i1 : Nat) (v1 : Unit)=>([U,.d (.int .u8 a1),.d (.int .i64 a2),.ptr 0 0,U,U,U,.d (.int .i64 (i1 : Int))] ++ us 25)) (fun i1 v1=>⟨[[.d (.bool a0.Skip),.d (.list (List.map encApiWord a0.Words)),.d (.str a0.Comment)]],[]⟩) qg65 (fun _ _=>rfl) (by simp only [seval,FMW,zNI]) (by simp only [seval,FMW,zNI]) ?_ ?_)
 intro i1 e1 v1 qr63
 refine .seqK (.sR fun e h=>?_)
 simp only [seval,EMW,fld_31_1,sz_29,ag_29,und_29,qr63]
 refine mU e (.condT rfl (.skip (Mir.toK (.seqK (.block (.seqK (.joinV [U,.d (.int .u8 a1),.d (.int .i64 a2),.ptr 0 0,U,U,U,.d (.int .i64 (i1 : Int)),U,U,U,U,U,U,U,U,U,U,U,U,U,U,U,U,U,U,U,U,U,U,U,U,.d (.bool ((e1.Letter == a1) && (e1.Value == a2)))] ⟨[[.d (.bool a0.Skip),.d (.list (List.map encApiWord a0.Words)),.d (.str a0.Comment)]],[]⟩ rfl ?_ ?_))))))) h
 refine SWs.region ?_
 rcases Bool.eq_false_or_eq_true (e1.Letter == a1) with hb68 | hb68
 simp only [seval,EMW,SL,PB,fld_31_1,sz_29,ag_29,und_29,sz_77,qr63,Int.toNat_natCast,fld_77_0,sz_5,ag_5,fld_77_1,sz_2,ag_2,hb68]
 simp only [seval,EMW,SL,PB,fld_31_1,sz_29,ag_29,und_29,sz_77,qr63,Int.toNat_natCast,fld_77_0,sz_5,ag_5,hb68]
 refine Mir.toK (.cond rfl (fun hb70=>?_) (fun hb70=>?_))
 refine .sR fun e h=>?_
 simp only [seval,EMW]
 refine mU e (.ret fun e h=>?_) h
 cases h
 simp only [seval,FMW,Tryz.results128]
 refine .skip (Mir.toB (Mir.toK (.region fun e h=>?_)))
 simp only [seval,EMW]
 cases h
 simp only [seval,FMW,Tryz.results128,qr63]
 intro v1 qd64
 refine .seqK (.sR fun e h=>?_)
 simp only [seval,EMW,fld_31_1,sz_29,ag_29,und_29,qd64]
 refine mU e (.condF rfl (.exit fun e h=>?_)) h
 cases h
 simp only [seval,FMW,Tryz.results128]
 intro v2
 refine Mir.toK (.sR fun e h=>?_)
 simp only [seval,EMW]
 refine mU e (.ret fun e h=>?_) h
 cases h
 simp only [seval,FMW,Tryz.results128]
def r43_End (a0 : ApiBlock) : Option Bool := bindO (r43_has a0 77 30000) fun (y1 : Bool) => some y1
theorem r43_End_spec {a0 : ApiBlock} {y : Bool} (h : r43_End a0 = some y) : Spec gP 150 [.agg [.d (.bool a0.Skip), .d (.list (List.map encApiWord a0.Words)), .d (.str a0.Comment)]] (.d (.bool y)) := by
 refine spec_mir Tryz.func150 rfl (by kernel_rfl) (by kernel_rfl) (fun y : Bool => .d (.bool y)) ?_ h
 unfold r43_End
 simp only [List.replicate, List.length, nS, nA, Tryz.ntmps150, SV]
 refine .sR fun e h=>?_
 simp only [seval,EMW]
 refine mU e (.seqK (.bind fun y1 hy1=>.region fun e h=>?_)) h
 simp only [seval,EMW,ag_31,sz_31]
 refine SpecS.by (r43_has_spec hy1) (by simp only [seval,FMW]) ?_
 simp only [seval,EMW]
 refine mU e (.ret fun e h=>?_) h
 cases h
 simp only [seval,FMW,Tryz.results150]
def r43_Return (a0 : ApiBlock) : Option Bool := bindO (r43_has a0 77 99000) fun (y1 : Bool) => some y1
theorem r43_Return_spec {a0 : ApiBlock} {y : Bool} (h : r43_Return a0 = some y) : Spec gP 94 [.agg [.d (.bool a0.Skip), .d (.list (List.map encApiWord a0.Words)), .d (.str a0.Comment)]] (.d (.bool y)) := by
 refine spec_mir Tryz.func94 rfl (by kernel_rfl) (by kernel_rfl) (fun y : Bool => .d (.bool y)) ?_ h
 unfold r43_Return
 simp only [List.replicate, List.length, nS, nA, Tryz.ntmps94, SV]
 refine .sR fun e h=>?_
 simp only [seval,EMW]
 refine mU e (.seqK (.bind fun y1 hy1=>.region fun e h=>?_)) h
 simp only [seval,EMW,ag_31,sz_31]
 refine SpecS.by (r43_has_spec hy1) (by simp only [seval,FMW]) ?_
 simp only [seval,EMW]
 refine mU e (.ret fun e h=>?_) h
 cases h
 simp only [seval,FMW,Tryz.results94]
def r43_folds (a0 : ApiBlock) : Option Bool := bindO (bindO (r43_letter a0 78) fun (y1 : Bool) => if y1 = true then some false else bindO (r43_letter a0 79) fun (y2 : Bool) => if y2 = true then some false else bindO (r43_End a0) fun (y3 : Bool) => if y3 = true then some false else bindO (r43_Return a0) fun (y4 : Bool) => if y4 = true then some false else bindO (r43_has a0 77 98000) fun (y5 : Bool) => some (!y5)) fun (v1 : Bool) => some v1
theorem r43_folds_spec {a0 : ApiBlock} {y : Bool} (h : r43_folds a0 = some y) : Spec gP 127 [.agg [.d (.bool a0.Skip), .d (.list (List.map encApiWord a0.Words)), .d (.str a0.Comment)]] (.d (.bool y)) := by
 refine spec_mir Tryz.func127 rfl (by kernel_rfl) (by kernel_rfl) (fun y : Bool => .d (.bool y)) ?_ h
 unfold r43_folds
 simp only [List.replicate, List.length, nS, nA, Tryz.ntmps127, SV]
 refine .sR fun e h=>?_
 simp only [seval,EMW]
 refine mU e (.seqK (Mir.joinO (fun v1 : Bool=>([U,U,.d (.bool v1)] ++ us 23)) (fun v1=>⟨[[.d (.bool a0.Skip),.d (.list (List.map encApiWord a0.Words)),.d (.str a0.Comment)]],[]⟩) (fun _=>rfl) ?_ ?_)) h
 refine .bind fun y1 hy1=>.ite (fun hb2=>?_) (fun hb2=>?_)
 refine .region fun e h=>?_
 simp only [seval,EMW,ag_31,sz_31,hb2]
 refine SpecS.by (r43_letter_spec hy1) (by simp only [seval,FMW,hb2]) ?_
 simp only [seval,EMW,hb2]
 cases h
 simp only [seval,FMW,hb2]
 refine .bind fun y2 hy3=>.ite (fun hb4=>?_) (fun hb4=>?_)
 refine .region fun e h=>?_
 simp only [seval,EMW,ag_31,sz_31,hb2,hb4]
 refine SpecS.by (r43_letter_spec hy1) (by simp only [seval,FMW,hb2,hb4]) ?_
 simp only [seval,EMW,ag_31,sz_31,hb2,hb4]
 refine SpecS.by (r43_letter_spec hy3) (by simp only [seval,FMW,hb2,hb4]) ?_
 simp only [seval,EMW,hb2,hb4]
 cases h
 simp only [seval,FMW,hb2,hb4]
 refine .bind fun y3 hy5=>.ite (fun hb6=>?_) (fun hb6=>?_)
 refine .region fun e h=>?_
 simp only [seval,EMW,ag_31,sz_31,hb2,hb4,hb6]
 refine SpecS.by (r43_letter_spec hy1) (by simp only [seval,FMW,hb2,hb4,hb6]) ?_
 simp only [seval,EMW,ag_31,sz_31,hb2,hb4,hb6]
 refine SpecS.by (r43_letter_spec hy3) (by simp only [seval,FMW,hb2,hb4,hb6]) ?_
 simp only [seval,EMW,ag_31,sz_31,hb2,hb4,hb6]
 refine SpecS.by (r43_End_spec hy5) (by simp only [seval,FMW,hb2,hb4,hb6]) ?_
 simp only [seval,EMW,hb2,hb4,hb6]
 cases h
 simp only [seval,FMW,hb2,hb4,hb6]
 refine .bind fun y4 hy7=>.ite (fun hb8=>?_) (fun hb8=>?_)
 refine .region fun e h=>?_
 simp only [seval,EMW,ag_31,sz_31,hb2,hb4,hb6,hb8]
 refine SpecS.by (r43_letter_spec hy1) (by simp only [seval,FMW,hb2,hb4,hb6,hb8]) ?_
 simp only [seval,EMW,ag_31,sz_31,hb2,hb4,hb6,hb8]
 refine SpecS.by (r43_letter_spec hy3) (by simp only [seval,FMW,hb2,hb4,hb6,hb8]) ?_
 simp only [seval,EMW,ag_31,sz_31,hb2,hb4,hb6,hb8]
 refine SpecS.by (r43_End_spec hy5) (by simp only [seval,FMW,hb2,hb4,hb6,hb8]) ?_
 simp only [seval,EMW,ag_31,sz_31,hb2,hb4,hb6,hb8]
 refine SpecS.by (r43_Return_spec hy7) (by simp only [seval,FMW,hb2,hb4,hb6,hb8]) ?_
 simp only [seval,EMW,hb2,hb4,hb6,hb8]
 cases h
 simp only [seval,FMW,hb2,hb4,hb6,hb8]
 refine .bind fun y5 hy9=>.region fun e h=>?_
 simp only [seval,EMW,ag_31,sz_31,hb2,hb4,hb6,hb8]
 refine SpecS.by (r43_letter_spec hy1) (by simp only [seval,FMW,hb2,hb4,hb6,hb8]) ?_
 simp only [seval,EMW,ag_31,sz_31,hb2,hb4,hb6,hb8]
 refine SpecS.by (r43_letter_spec hy3) (by simp only [seval,FMW,hb2,hb4,hb6,hb8]) ?_
 simp only [seval,EMW,ag_31,sz_31,hb2,hb4,hb6,hb8]
 refine SpecS.by (r43_End_spec hy5) (by simp only [seval,FMW,hb2,hb4,hb6,hb8]) ?_
 simp only [seval,EMW,ag_31,sz_31,hb2,hb4,hb6,hb8]
 refine SpecS.by (r43_Return_spec hy7) (by simp only [seval,FMW,hb2,hb4,hb6,hb8]) ?_
 simp only [seval,EMW,ag_31,sz_31,hb2,hb4,hb6,hb8]
 refine SpecS.by (r43_has_spec hy9) (by simp only [seval,FMW,hb2,hb4,hb6,hb8]) ?_
 simp only [seval,EMW,hb2,hb4,hb6,hb8]
 cases h
 simp only [seval,FMW,hb2,hb4,hb6,hb8]
 intro v1
 refine Mir.toK (.ret fun e h=>?_)
 cases h
 simp only [seval,FMW,Tryz.results127]
def r43_run (a0 : (List ApiBlock)) (a1 : Int) (a2 : Int) (a3 : Int) : Option Bool := if (decide ((IntKind.i64.wrap (a2 + a3)) > (a0.length : Int))) = true then some false else bindX (loopX (fun (v1 : Int) => if (decide (v1 < a3)) = true then bindO (bindO (gt a0 (IntKind.i64.wrap (a1 + v1))) fun (e1 : ApiBlock) => bindO (r43_folds e1) fun (y1 : Bool) => if y1 = true then bindO (gt a0 (IntKind.i64.wrap (a2 + v1))) fun (e2 : ApiBlock) => bindO (r41_Equal e1 e2) fun (y2 : Bool) => some (!y2) else some true) fun (v2 : Bool) => if v2 = true then some (.ret (.ret false)) else some (.go (IntKind.i64.wrap (v1 + 1))) else some (.ret (.go ()))) fuel 0) fun (v3 : Unit) => some true
theorem r43_run_spec {a0 : (List ApiBlock)} {a1 : Int} {a2 : Int} {a3 : Int} {y : Bool} (h : r43_run a0 a1 a2 a3 = some y) : Spec gP 92 [.d (.list (List.map encApiBlock a0)), .d (.int .i64 a1), .d (.int .i64 a2), .d (.int .i64 a3)] (.d (.bool y)) := by
 refine spec_mir Tryz.func92 rfl (by kernel_rfl) (by kernel_rfl) (fun y : Bool => .d (.bool y)) ?_ h
 unfold r43_run
 simp only [List.replicate, List.length, nS, nA, Tryz.ntmps92, SV]
 refine .sR fun e h=>?_
 simp only [seval,EMW]
 refine mU e (.seqK (.sR fun e h=>?_)) h
 simp only [seval,EMW,und_39]
 refine mU e (.cond rfl (fun hb2=>?_) (fun hb2=>?_)) h
 refine .sR fun e h=>?_
 simp only [seval,EMW]
 refine mU e (.ret fun e h=>?_) h
 cases h
 simp only [seval,FMW,Tryz.results92]
 refine .skip (Mir.toK (.seqK (.sR fun e h=>?_)))
 simp only [seval,EMW]
 refine mU e (Mir.join (fun v3 : Unit=>(us 45)) (fun v3=>⟨[],[]⟩) (fun _=>rfl) ?_ ?_) h
 refine .block (Mir.loop (fun v1 : Int=>([.d (.list (List.map encApiBlock a0)),.d (.int .i64 a1),.d (.int .i64 a2),.d (.int .i64 a3),U,U,U,U,U,.d (.int .i64 v1)] ++ us 35)) (fun v1=>⟨[],[]⟩) (fun _=>rfl) (by simp only [seval,FMW]) (by simp only [seval,FMW]) fun v1=>.seqK (.sR fun e h=>?_))
 simp only [seval,EMW]
 refine mU e (.cond rfl (fun hb79=>?_) (fun hb79=>?_)) h
 refine .skip (Mir.toK (.seqK (.block (.seqK (Mir.joinO (fun v2 : Bool=>[.d (.list (List.map encApiBlock a0)),.d (.int .i64 a1),.d (.int .i64 a2),.d (.int .i64 a3),U,U,U,U,U,.d (.int .i64 v1),U,U,U,U,U,U,U,U,U,U,U,U,U,U,U,U,U,U,U,U,U,U,U,U,U,U,U,U,U,U,U,U,U,U,.d (.bool v2)]) (fun v2=>⟨[],[]⟩) (fun _=>rfl) ?_ ?_)))))
 refine .bind fun e1 q86=>?_
 replace q86 := gt_ok q86
 refine .bind fun y1 hy87=>.ite (fun hb88=>?_) (fun hb88=>?_)
 refine .bind fun e2 q89=>?_
 replace q89 := gt_ok q89
 refine .bind fun y2 hy90=>.regionD [] (by kernel_rfl) fun e h=>?_
 simp only [seval,EMW,SB,und_39,sz_31,q86,ag_31,hb88]
 refine Spec.by (r43_folds_spec hy87) (by simp only [seval,FMW,hb88]) ?_
 simp only [seval,EMW,SB,und_39,sz_31,q86,ag_31,q89,hb88]
 refine Spec.by (r41_Equal_spec hy90) (by simp only [seval,FMW,hb88]) ?_
 simp only [seval,EMW,SB,hb88]
 cases h
 simp only [seval,FMW,hb88]
 refine .regionD [] (by kernel_rfl) fun e h=>?_
 simp only [seval,EMW,SB,und_39,sz_31,q86,ag_31,hb88]
 refine Spec.by (r43_folds_spec hy87) (by simp only [seval,FMW,hb88]) ?_
 simp only [seval,EMW,SB,hb88]
 cases h
 simp only [seval,FMW,hb88]
 intro v2
 refine Mir.toK (.cond rfl (fun hb92=>?_) (fun hb92=>?_))
 refine .sR fun e h=>?_
 simp only [seval,EMW]
 refine mU e (.ret fun e h=>?_) h
 cases h
 simp only [seval,FMW,Tryz.results92]
 refine .skip (Mir.toB (Mir.toK (.region fun e h=>?_)))
 simp only [seval,EMW]
 cases h
 simp only [seval,FMW,Tryz.results92]
 refine .exit fun e h=>?_
 cases h
 simp only [seval,FMW,Tryz.results92]
 intro v3
 refine Mir.toK (.sR fun e h=>?_)
 simp only [seval,EMW]
 refine mU e (.ret fun e h=>?_) h
 cases h
 simp only [seval,FMW,Tryz.results92]
def r43_Fold (a0 : (List ApiBlock)) (a1 : Int) (a2 : Int) : Option (R43Program × Int) := if ((decide (a1 < 1)) || ((decide (a1 > 9999)) || (decide (a2 < 1)))) = true then some (R43Program.mk [] [], 1) else bindX (loopX (fun (v1 : Int) => if (decide ((IntKind.i64.wrap (v1 + a2)) ≤ (a0.length : Int))) = true then bindX (bindO (loopX (fun (v2 : Bool × Int) => if ((decide ((IntKind.i64.wrap (v2.2 + a2)) ≤ (a0.length : Int))) && (!v2.1)) = true then bindO (r43_run a0 v1 v2.2 a2) fun (y1 : Bool) => some (.go (y1, IntKind.i64.wrap (v2.2 + 1))) else some (.ret v2.1)) fuel (false, IntKind.i64.wrap (v1 + a2))) fun (v3 : Bool) => if (!v3) = true then some (.go ()) else bindO (loopX (fun (v4 : Int × (List ApiBlock)) => if (decide (v4.1 < (a0.length : Int))) = true then bindO (r43_run a0 v1 v4.1 a2) fun (y2 : Bool) => if (!y2) = true then bindO (gt a0 v4.1) fun (e1 : ApiBlock) => guardO (okLen (v4.2.length + 1)) ( some (.go (IntKind.i64.wrap (v4.1 + 1), v4.2 ++ [e1]))) else guardO (okLen (v4.2.length + 1)) ( some (.go (IntKind.i64.wrap (v4.1 + a2), v4.2 ++ [ApiBlock.mk false [ApiWord.mk 77 98000, ApiWord.mk 80 (IntKind.i64.wrap (1000 * a1))] []]))) else some (.ret v4.2)) fuel (0, [])) fun (v5 : (List ApiBlock)) => bindO (cutL a0 v1 (IntKind.i64.wrap (v1 + a2))) fun (s1 : (List ApiBlock)) => guardO (okLen (s1.length)) ( some (.ret (.ret (.ret (R43Program.mk v5 [R43Sub.mk a1 s1], 0)))))) fun (v6 : Unit) => some (.go (IntKind.i64.wrap (v1 + 1))) else some (.ret (.go ()))) fuel 0) fun (v7 : Unit) => guardO (okLen (a0.length)) ( some (R43Program.mk a0 [], 0))
theorem r43_Fold_spec {a0 : (List ApiBlock)} {a1 : Int} {a2 : Int} {y : R43Program × Int} (h : r43_Fold a0 a1 a2 = some y) : Spec gP 48 [.d (.list (List.map encApiBlock a0)), .d (.int .i64 a1), .d (.int .i64 a2)] (.tuple [.agg [.d (.list (List.map encApiBlock y.1.Main)), .d (.list (List.map encR43Sub y.1.Subs))], .d (.int .i64 y.2)]) := by
 refine spec_mir Tryz.func48 rfl (by kernel_rfl) (by kernel_rfl) (fun y : R43Program × Int => .tuple [.agg [.d (.list (List.map encApiBlock y.1.Main)), .d (.list (List.map encR43Sub y.1.Subs))], .d (.int .i64 y.2)]) ?_ h
 unfold r43_Fold
 simp only [List.replicate, List.length, nS, nA, Tryz.ntmps48, SV]
 refine .sR fun e h=>?_
 simp only [seval,EMW,zero_93]
 refine mU e (.seqK (.seqK (.joinV ([.d (.list (List.map encApiBlock a0)),.d (.int .i64 a1),.d (.int .i64 a2),U,U,U,.ptr 0 0,U,U,U,U,U,U,U,U,U,U,U,U,U,U,U,.d (.bool ((decide (a1 < 1)) || ((decide (a1 > 9999)) || (decide (a2 < 1)))))] ++ us 83) ⟨[[.nil,.nil]],[]⟩ rfl ?_ ?_))) h
 refine SWs.region ?_
 rcases Bool.eq_false_or_eq_true (decide (a1 < 1)) with hb1 | hb1
 simp only [seval,EMW,SL,PB,hb1]
 rcases Bool.eq_false_or_eq_true (decide (a1 > 9999)) with hb2 | hb2
 simp only [seval,EMW,SL,PB,hb1,hb2]
 simp only [seval,EMW,SL,PB,hb1,hb2]
 refine Mir.toK (.cond rfl (fun hb4=>?_) (fun hb4=>?_))
 refine .sR fun e h=>?_
 simp only [seval,EMW,zero_93,pl_93,sz_93]
 refine mU e (.ret fun e h=>?_) h
 cases h
 simp only [seval,FMW,Tryz.results48,ag_93,sz_93]
 refine .skip (Mir.toK (.seqK (.sR fun e h=>?_)))
 simp only [seval,EMW]
 refine mU e (Mir.join (fun v7 : Unit=>([.d (.list (List.map encApiBlock a0)),U,U,U,U,U,.ptr 0 0] ++ us 99)) (fun v7=>⟨[[.nil,.nil]],[]⟩) (fun _=>rfl) ?_ ?_) h
 refine .block (Mir.loop (fun v1 : Int=>([.d (.list (List.map encApiBlock a0)),.d (.int .i64 a1),.d (.int .i64 a2),U,U,U,.ptr 0 0,U,.d (.int .i64 v1)] ++ us 97)) (fun v1=>⟨[[.nil,.nil]],[]⟩) (fun _=>rfl) (by simp only [seval,FMW]) (by simp only [seval,FMW]) fun v1=>.seqK (.sR fun e h=>?_))
 simp only [seval,EMW,und_39]
 refine mU e (.cond rfl (fun h1=>?_) (fun h1=>?_)) h
 refine .skip (Mir.toK (.seqK (Mir.join (fun v6 : Unit=>([.d (.list (List.map encApiBlock a0)),.d (.int .i64 a1),.d (.int .i64 a2),U,U,U,.ptr 0 0,U,.d (.int .i64 v1)] ++ us 97)) (fun v6=>⟨[[.nil,.nil]],[]⟩) (fun _=>rfl) ?_ ?_)))
 refine .block (.sR fun e h=>?_)
 simp only [seval,EMW]
 refine mU e (.seqK (.sR fun e h=>?_)) h
 simp only [seval,EMW]
 refine mU e (Mir.joinO (fun v3 : Bool=>([.d (.list (List.map encApiBlock a0)),.d (.int .i64 a1),.d (.int .i64 a2),U,U,U,.ptr 0 0,U,.d (.int .i64 v1),.d (.bool v3)] ++ us 96)) (fun v3=>⟨[[.nil,.nil]],[]⟩) (fun _=>rfl) ?_ ?_) h
 refine .block (Mir.loop (fun v2 : Bool × Int=>([.d (.list (List.map encApiBlock a0)),.d (.int .i64 a1),.d (.int .i64 a2),U,U,U,.ptr 0 0,U,.d (.int .i64 v1),.d (.bool v2.1),.d (.int .i64 v2.2)] ++ us 95)) (fun v2=>⟨[[.nil,.nil]],[]⟩) (fun _=>rfl) (by simp only [seval,FMW]) (by simp only [seval,FMW]) fun v2=>.seqK (.seqK (.joinV ([.d (.list (List.map encApiBlock a0)),.d (.int .i64 a1),.d (.int .i64 a2),U,U,U,.ptr 0 0,U,.d (.int .i64 v1),.d (.bool v2.1),.d (.int .i64 v2.2),U,U,U,U,U,U,U,U,U,U,U,U,U,U,U,U,U,U,U,U,U,U,U,U,U,U,U,U,U,U,U,U,U,.d (.bool ((decide ((IntKind.i64.wrap (v2.2 + a2)) ≤ (a0.length : Int))) && (!v2.1)))] ++ us 61) ⟨[[.nil,.nil]],[]⟩ rfl ?_ ?_)))
 refine SWs.region ?_
 rcases Bool.eq_false_or_eq_true (decide ((IntKind.i64.wrap (v2.2 + a2)) ≤ (a0.length : Int))) with h2 | h2
 simp only [seval,EMW,SL,PB,und_39,h2]
 simp only [seval,EMW,SL,PB,und_39,h2]
 refine Mir.toK (.cond rfl (fun h3=>?_) (fun h3=>?_))
 refine .skip (Mir.toK (.seqK (.block (.bind fun y1 h4=>.region fun e h=>?_))))
 simp only [seval,EMW]
 refine SpecS.by (r43_run_spec h4) (by simp only [seval,FMW]) ?_
 simp only [seval,EMW]
 refine mU e (.region fun e h=>?_) h
 simp only [seval,EMW]
 cases h
 simp only [seval,FMW,Tryz.results48,ag_93,sz_93]
 refine .exit fun e h=>?_
 cases h
 simp only [seval,FMW,Tryz.results48,ag_93,sz_93]
 intro v3
 refine Mir.toK (.seqK (.sR fun e h=>?_))
 simp only [seval,EMW]
 refine mU e (.cond rfl (fun h5=>?_) (fun h5=>?_)) h
 refine .exit fun e h=>?_
 cases h
 simp only [seval,FMW,Tryz.results48,ag_93,sz_93]
 refine .skip (Mir.toK (.sR fun e h=>?_))
 simp only [seval,EMW,zero_93]
 refine mU e (.seqK (.sR fun e h=>?_)) h
 simp only [seval,EMW]
 refine mU e (.gh [.cell 1 0 31] rfl (Mir.joinO (fun v5 : (List ApiBlock)=>([.d (.list (List.map encApiBlock a0)),.d (.int .i64 a1),.d (.int .i64 a2),U,U,U,.ptr 0 0,U,.d (.int .i64 v1),U,U,.ptr 1 0] ++ us 94)) (fun v5=>⟨[[.nil,.nil],[.own 0 (List.map encApiBlock v5),.nil]],[(31,v5.length)]⟩) (fun _=>rfl) ?_ ?_)) h
 refine .block (Mir.loop (fun v4 : Int × (List ApiBlock)=>([.d (.list (List.map encApiBlock a0)),.d (.int .i64 a1),.d (.int .i64 a2),U,U,U,.ptr 0 0,U,.d (.int .i64 v1),U,U,.ptr 1 0,.d (.int .i64 v4.1)] ++ us 93)) (fun v4=>⟨[[.nil,.nil],[.own 0 (List.map encApiBlock v4.2),.nil]],[(31,v4.2.length)]⟩) (fun _=>rfl) (by simp only [seval,FMW]) (by simp only [seval,FMW]) fun v4=>.seqK (.sR fun e h=>?_))
 simp only [seval,EMW,und_39]
 refine mU e (.cond rfl (fun h6=>?_) (fun h6=>?_)) h
 refine .skip (Mir.toK (.block (.seqK (.seqK (.bind fun y2 h7=>.region fun e h=>?_)))))
 simp only [seval,EMW]
 refine SpecS.by (r43_run_spec h7) (by simp only [seval,FMW]) ?_
 simp only [seval,EMW]
 refine mU e (.cond rfl (fun h8=>?_) (fun h8=>?_)) h
 refine .seqK (.bind fun e1 q1=>?_)
 replace q1 := gt_ok q1
 refine .guard fun q2=>.regionD [] (by kernel_rfl) fun e h=>?_
 simp only [seval,EMW,SB,fld_93_0,sz_39,ag_39,und_39,sz_31,q1,ag_31,zero_31,(oL 3),app_39,al_ApiBlock,q2]
 refine mU e (.sR fun e h=>?_) h
 simp only [seval,EMW]
 refine mU e (.exit fun e h=>?_) h
 cases h
 simp only [seval,FMW,Tryz.results48,ag_93,sz_93]
 refine .skip (Mir.toK (.seqK (.guard fun q3=>.region fun e h=>?_)))
 simp only [seval,EMW,fld_93_0,sz_39,ag_39,zero_77,pl_77,und_29,sz_77,(oL 4),zero_31,pl_31,und_39,sz_31,(oL 3),app_39,al_ApiBlock,q3]
 refine mU e (.region fun e h=>?_) h
 simp only [seval,EMW]
 cases h
 simp only [seval,FMW,Tryz.results48,ag_93,sz_93]
 refine .exit fun e h=>?_
 cases h
 simp only [seval,FMW,Tryz.results48,ag_93,sz_93]
 intro v5
 refine Mir.toK (.seqK (.bind fun s1 q4=>?_))
 replace q4 := cutL_ok q4
 refine .guard fun q5=>.region fun e h=>?_
 simp only [seval,EMW,und_39,sz_31,zero_31,(oL 0),q4,Nat.le_refl,and_true,true_and,dm,tm,al_ApiBlock,app_39,q5,zero_142,pl_142,und_91,sz_142,(oL 2),fld_93_1,sz_91]
 refine mU e (.sR fun e h=>?_) h
 simp only [seval,EMW,ag_93,sz_93]
 refine mU e (.ret fun e h=>?_) h
 cases h
 simp only [seval,FMW,Tryz.results48,ag_93,sz_93]
 intro v6
 refine Mir.toK (.region fun e h=>?_)
 simp only [seval,EMW]
 cases h
 simp only [seval,FMW,Tryz.results48,ag_93,sz_93]
 refine .exit fun e h=>?_
 cases h
 simp only [seval,FMW,Tryz.results48,ag_93,sz_93]
 intro v7
 refine Mir.toK (.seqK (.guard fun q6=>.region fun e h=>?_))
 simp only [seval,EMW,und_39,sz_31,zero_31,(oL 0),app_39,al_ApiBlock,q6,zero_93,pl_93,sz_93]
 refine mU e (.ret fun e h=>?_) h
 cases h
 simp only [seval,FMW,Tryz.results48,ag_93,sz_93]
def r43_Join (a0 : R43Program) : Option (List ApiBlock) := guardO (okLen (0 + a0.Main.length)) ( bindO (guardO (okIdx a0.Subs) ( rangeX (fun (i1 : Nat) (e1 : R43Sub) (v1 : (List ApiBlock)) => guardO (okLen (v1.length + 1)) ( guardO (okLen (v1.length + 1 + e1.Blocks.length)) ( guardO (okLen (v1.length + 1 + e1.Blocks.length + 1)) ( some (.go (v1 ++ [ApiBlock.mk false [ApiWord.mk 79 (IntKind.i64.wrap (1000 * e1.Number))] []] ++ e1.Blocks ++ [ApiBlock.mk false [ApiWord.mk 77 99000] []])))))) (fun (v1 : (List ApiBlock)) => some v1) a0.Subs 0 ([] ++ a0.Main))) fun (v2 : (List ApiBlock)) => some v2)
theorem r43_Join_spec {a0 : R43Program} {y : (List ApiBlock)} (h : r43_Join a0 = some y) : Spec gP 49 [.agg [.d (.list (List.map encApiBlock a0.Main)), .d (.list (List.map encR43Sub a0.Subs))]] (.d (.list (List.map encApiBlock y))) := by
 refine spec_mir Tryz.func49 rfl (by kernel_rfl) (by kernel_rfl) (fun y : (List ApiBlock) => .d (.list (List.map encApiBlock y))) ?_ h
 unfold r43_Join
 simp only [List.replicate, List.length, nS, nA, Tryz.ntmps49, SV]
 refine .sR fun e h=>?_
 simp only [seval,EMW]
 refine mU e (.seqK (.guard fun q1=>.regionW fun e h=>regW.alt 0 rfl ?_)) h
 simp only [seval,EMW,w_none,w_eq]
 refine alt_emptyOwn app_39 (regW.of ?_)
 simp only [seval,EMW,w_none,w_eq,und_39,sz_31,zero_31,(oL 0),fld_93_0,sz_39,ag_39,app_39,al_ApiBlock,q1]
 refine mU e (.seqK (.sR fun e h=>?_)) h
 simp only [seval,EMW]
 refine mU e (Mir.joinO (fun v2 : (List ApiBlock)=>([U,U,U,.own 0 (List.map encApiBlock v2)] ++ us 40)) (fun v2=>⟨[[.d (.list (List.map encApiBlock a0.Main)),.d (.list (List.map encR43Sub a0.Subs))]],[(31,v2.length)]⟩) (fun _=>rfl) ?_ ?_) h
 refine .block (.guard fun qg73=>Mir.range (fun (i1 : Nat) (v1 : (List ApiBlock))=>([U,.ptr 0 0,U,.own 0 (List.map encApiBlock v1),.d (.int .i64 (i1 : Int))] ++ us 39)) (fun i1 v1=>⟨[[.d (.list (List.map encApiBlock a0.Main)),.d (.list (List.map encR43Sub a0.Subs))]],[(31,v1.length)]⟩) qg73 (fun _ _=>rfl) (by simp only [seval,FMW,zNI]) (by simp only [seval,FMW,zNI]) ?_ ?_)
 intro i1 e1 v1 qr71
 refine .seqK (.sR fun e h=>?_)
 simp only [seval,EMW,fld_93_1,sz_91,ag_91,und_91,qr71]
 refine mU e (.condT rfl (.skip (Mir.toK (.seqK (.block (.seqK (.guard fun q77=>.region fun e h=>?_))))))) h
 simp only [seval,EMW,fld_93_1,sz_91,ag_91,und_91,sz_142,qr71,Int.toNat_natCast,fld_142_0,sz_2,ag_2,zero_77,pl_77,und_29,sz_77,(oL 2),zero_31,pl_31,und_39,sz_31,(oL 3),app_39,al_ApiBlock,q77]
 refine mU e (.seqK (.guard fun q78=>.region fun e h=>?_)) h
 simp only [seval,EMW,fld_93_1,sz_91,ag_91,und_91,sz_142,qr71,Int.toNat_natCast,fld_142_1,sz_39,ag_39,app_39,al_ApiBlock,xLA,q78]
 refine mU e (.guard fun q79=>.region fun e h=>?_) h
 simp only [seval,EMW,zero_77,pl_77,und_29,sz_77,(oL 2),zero_31,pl_31,und_39,sz_31,(oL 3),app_39,al_ApiBlock,xLA,q79]
 refine mU e (.region fun e h=>?_) h
 simp only [seval,EMW]
 cases h
 simp only [seval,FMW,Tryz.results49,qr71]
 intro v1 qd72
 refine .seqK (.sR fun e h=>?_)
 simp only [seval,EMW,fld_93_1,sz_91,ag_91,und_91,qd72]
 refine mU e (.condF rfl (.exit fun e h=>?_)) h
 cases h
 simp only [seval,FMW,Tryz.results49]
 intro v2
 refine Mir.toK (.sR fun e h=>?_)
 simp only [seval,EMW]
 refine mU e (.ret fun e h=>?_) h
 cases h
 simp only [seval,FMW,Tryz.results49]
def r46_numbered (a0 : (List ApiBlock)) (a1 : Int) : Option (List ApiBlock) := bindO (guardO (okIdx a0) ( rangeX (fun (i1 : Nat) (e1 : ApiBlock) (v1 : (List ApiBlock) × Int) => bindO (bindO (r41_Codes e1 79) fun (y1 : (List Int)) => if ((y1.length : Int) == 0) = true then bindO (r43_Return e1) fun (y2 : Bool) => some (!y2) else some false) fun (v2 : Bool) => bindO (if v2 = true then bindO (r46_word 78 (IntKind.i64.wrap (1000 * (IntKind.i64.wrap (v1.2 + a1))))) fun (y3 : ApiWord) => guardO (okLen (1 + e1.Words.length)) ( some (IntKind.i64.wrap (v1.2 + a1), [y3] ++ e1.Words)) else some (v1.2, e1.Words)) fun (v3 : Int × (List ApiWord)) => guardO (okLen (v1.1.length + 1)) ( some (.go (v1.1 ++ [ApiBlock.mk e1.Skip v3.2 e1.Comment], v3.1)))) (fun (v1 : (List ApiBlock) × Int) => some v1.1) a0 0 ([], 0))) fun (v4 : (List ApiBlock)) => some v4
theorem r46_numbered_spec {a0 : (List ApiBlock)} {a1 : Int} {y : (List ApiBlock)} (h : r46_numbered a0 a1 = some y) : Spec gP 50 [.d (.list (List.map encApiBlock a0)), .d (.int .i64 a1)] (.d (.list (List.map encApiBlock y))) := by
 refine spec_mir Tryz.func50 rfl (by kernel_rfl) (by kernel_rfl) (fun y : (List ApiBlock) => .d (.list (List.map encApiBlock y))) ?_ h
 unfold r46_numbered
 simp only [List.replicate, List.length, nS, nA, Tryz.ntmps50, SV]
 refine .sR fun e h=>?_
 simp only [seval,EMW]
 refine mU e (.sR fun e h=>?_) h
 simp only [seval,EMW]
 refine mU e (.sR fun e h=>?_) h
 simp only [seval,EMW]
 refine mU e (.seqK (.sR fun e h=>?_)) h
 simp only [seval,EMW]
 refine mU e (.gh [.slot 5 31] rfl (Mir.joinO (fun v4 : (List ApiBlock)=>([U,U,U,U,U,.own 0 (List.map encApiBlock v4)] ++ us 38)) (fun v4=>⟨[],[(31,v4.length)]⟩) (fun _=>rfl) ?_ ?_)) h
 refine .block (.guard fun q1=>Mir.range (fun (i1 : Nat) (v1 : (List ApiBlock) × Int)=>([.d (.list (List.map encApiBlock a0)),.d (.int .i64 a1),U,U,U,.own 0 (List.map encApiBlock v1.1),.d (.int .i64 v1.2),.d (.int .i64 (i1 : Int))] ++ us 36)) (fun i1 v1=>⟨[],[(31,v1.1.length)]⟩) q1 (fun _ _=>rfl) (by simp only [seval,FMW,zNI]) (by simp only [seval,FMW,zNI]) ?_ ?_)
 intro i1 e1 v1 q2
 refine .seqK (.sR fun e h=>?_)
 simp only [seval,EMW,und_39,q2]
 refine mU e (.condT rfl (.skip (Mir.toK (.seqK (.block (.sR fun e h=>?_)))))) h
 simp only [seval,EMW,und_39,sz_31,q2,Int.toNat_natCast,ag_31,zero_31]
 refine mU e (.seqK (.seqK (Mir.joinO (fun v2 : Bool=>([.d (.list (List.map encApiBlock a0)),.d (.int .i64 a1),U,U,U,.own 0 (List.map encApiBlock v1.1),.d (.int .i64 v1.2),.d (.int .i64 (i1 : Int)),.ptr 0 0,U,U,U,U,U,U,U,U,U,U,U,U,U,U,U,U,U,U,.d (.bool v2)] ++ us 16)) (fun v2=>⟨[[.d (.bool e1.Skip),.d (.list (List.map encApiWord e1.Words)),.d (.str e1.Comment)]],[(31,v1.1.length)]⟩) (fun _=>rfl) ?_ ?_))) h
 refine .bind fun y1 h1=>.ite (fun h2=>?_) (fun h2=>?_)
 refine .bind fun y2 h3=>.region fun e h=>?_
 simp only [seval,EMW,ag_31,sz_31,h2]
 refine SpecS.by (r41_Codes_spec h1) (by simp only [seval,FMW,h2]) ?_
 simp only [seval,EMW,und_121,ag_31,sz_31,h2]
 refine SpecS.by (r43_Return_spec h3) (by simp only [seval,FMW,h2]) ?_
 simp only [seval,EMW,h2]
 cases h
 simp only [seval,FMW,h2]
 refine .region fun e h=>?_
 simp only [seval,EMW,ag_31,sz_31,h2]
 refine SpecS.by (r41_Codes_spec h1) (by simp only [seval,FMW,h2]) ?_
 simp only [seval,EMW,und_121,h2]
 cases h
 simp only [seval,FMW,h2]
 intro v2
 refine Mir.toK (Mir.joinO (fun v3 : Int × (List ApiWord)=>([.d (.list (List.map encApiBlock a0)),.d (.int .i64 a1),U,U,U,.own 0 (List.map encApiBlock v1.1),.d (.int .i64 v3.1),.d (.int .i64 (i1 : Int)),.ptr 0 0] ++ us 35)) (fun v3=>⟨[[.d (.bool e1.Skip),.d (.list (List.map encApiWord v3.2)),.d (.str e1.Comment)]],[(31,v1.1.length)]⟩) (fun _=>rfl) ?_ ?_)
 refine .cond rfl (fun h4=>?_) (fun h4=>?_)
 refine .sR fun e h=>?_
 simp only [seval,EMW]
 refine mU e (.bind fun y3 h5=>.guard fun q3=>Mir.regionA 0 [] ([.d (.list (List.map encApiBlock a0)),.d (.int .i64 a1),U,U,U,.own 0 (List.map encApiBlock v1.1),.d (.int .i64 (IntKind.i64.wrap (v1.2 + a1))),.d (.int .i64 (i1 : Int)),.ptr 0 0,U,U,U,U,U,U,U,U,U,U,U,U,U,U,U,U,U,U,.d (.bool v2),.d (.int .i64 v1.2),.d (.int .i64 a1),.d (.int .i64 (IntKind.i64.wrap (v1.2 + a1))),.d (.int .i64 (IntKind.i64.wrap (v1.2 + a1))),.d (.int .i64 (IntKind.i64.wrap (1000 * (IntKind.i64.wrap (v1.2 + a1))))),.agg [.d (.int .u8 y3.Letter),.d (.int .i64 y3.Value)],.own 1 (List.map encApiWord [y3]),.ptr 0 1,.d (.list (List.map encApiWord e1.Words)),.own 1 (List.map encApiWord ([y3] ++ e1.Words)),.ptr 0 1] ++ us 5) ⟨[[.d (.bool e1.Skip),.own 1 (List.map encApiWord ([y3] ++ e1.Words)),.d (.str e1.Comment)]],[(31,v1.1.length),(77,1 + e1.Words.length)]⟩ (by kernel_rfl) (fun e h=>?_) (fun e h=>?_)) h
 simp only [seval,EMW,w_none,w_eq,SB]
 refine regA.two (j := 0) (k := 4) (by kernel_rfl) rfl rfl ?_ ?_
 refine regW.of ?_
 simp only [seval,EMW,w_none,w_eq]
 refine regA.two (j := 1) (k := 4) (by kernel_rfl) rfl rfl ?_ ?_
 refine regW.of ?_
 simp only [seval,EMW,w_none,w_eq]
 refine regA.two (j := 2) (k := 4) (by kernel_rfl) rfl rfl ?_ ?_
 refine regW.of ?_
 simp only [seval,EMW,w_none,w_eq]
 refine SpecS.by (r46_word_spec h5) (by simp only [seval,FMW]) ?_
 simp only [seval,EMW,w_none,w_eq]
 refine regA.two (j := 3) (k := 4) (by kernel_rfl) rfl rfl ?_ ?_
 refine regW.alt 0 rfl ?_
 simp only [seval,EMW,w_none,w_eq]
 refine alt_litOwn (es := List.map encApiWord [y3]) app_29 (by simp only [seval,EMW,und_29,sz_77,zero_77,(oL 2)]) (by decide) (regW.of ?_)
 simp only [seval,EMW,w_none,w_eq,und_29,sz_77,zero_77,(oL 2)]
 refine regA.one (j := 4) (by kernel_rfl) rfl (regW.of ?_)
 simp only [seval,EMW,w_none,w_eq,fld_31_1,sz_29]
 refine regA.one (j := 5) (by kernel_rfl) rfl (regW.of ?_)
 simp only [seval,EMW,w_none,w_eq,ag_29,sz_29]
 refine regA.draw 6 [] (by kernel_rfl) ?_
 simp only [seval,EMW,w_none,w_eq,SB,app_29,al_ApiWord,q3,fld_31_1,sz_29]
 exact ⟨rfl,rfl⟩
 refine regW.of ?_
 simp only [seval,EMW,w_none,w_eq,fld_31_1,sz_29]
 refine regA.two (j := 3) (k := 5) (by kernel_rfl) rfl rfl ?_ ?_
 refine regW.alt 0 rfl ?_
 simp only [seval,EMW,w_none,w_eq]
 refine alt_litOwn (es := List.map encApiWord [y3]) app_29 (by simp only [seval,EMW,und_29,sz_77,zero_77,(oL 2)]) (by decide) (regW.of ?_)
 simp only [seval,EMW,w_none,w_eq,und_29,sz_77,zero_77,(oL 2)]
 refine regA.one (j := 5) (by kernel_rfl) rfl (regW.of ?_)
 simp only [seval,EMW,w_none,w_eq,ag_29,sz_29]
 refine regA.draw 6 [] (by kernel_rfl) ?_
 simp only [seval,EMW,w_none,w_eq,SB,app_29,al_ApiWord,q3,fld_31_1,sz_29]
 exact ⟨rfl,rfl⟩
 refine regW.of ?_
 simp only [seval,EMW,w_none,w_eq,ag_29,sz_29]
 refine regA.one (j := 3) (by kernel_rfl) rfl (regW.alt 0 rfl ?_)
 simp only [seval,EMW,w_none,w_eq]
 refine alt_litOwn (es := List.map encApiWord [y3]) app_29 (by simp only [seval,EMW,und_29,sz_77,zero_77,(oL 2)]) (by decide) (regW.of ?_)
 simp only [seval,EMW,w_none,w_eq,und_29,sz_77,zero_77,(oL 2)]
 refine regA.draw 6 [] (by kernel_rfl) ?_
 simp only [seval,EMW,w_none,w_eq,SB,app_29,al_ApiWord,q3,fld_31_1,sz_29]
 exact ⟨rfl,rfl⟩
 refine regW.of ?_
 simp only [seval,EMW,w_none,w_eq,fld_31_1,sz_29]
 refine regA.two (j := 2) (k := 5) (by kernel_rfl) rfl rfl ?_ ?_
 refine regW.of ?_
 simp only [seval,EMW,w_none,w_eq]
 refine SpecS.by (r46_word_spec h5) (by simp only [seval,FMW]) ?_
 simp only [seval,EMW,w_none,w_eq]
 refine regA.two (j := 3) (k := 5) (by kernel_rfl) rfl rfl ?_ ?_
 refine regW.alt 0 rfl ?_
 simp only [seval,EMW,w_none,w_eq]
 refine alt_litOwn (es := List.map encApiWord [y3]) app_29 (by simp only [seval,EMW,und_29,sz_77,zero_77,(oL 2)]) (by decide) (regW.of ?_)
 simp only [seval,EMW,w_none,w_eq,und_29,sz_77,zero_77,(oL 2)]
 refine regA.one (j := 5) (by kernel_rfl) rfl (regW.of ?_)
 simp only [seval,EMW,w_none,w_eq,ag_29,sz_29]
 refine regA.draw 6 [] (by kernel_rfl) ?_
 simp only [seval,EMW,w_none,w_eq,SB,app_29,al_ApiWord,q3,fld_31_1,sz_29]
 exact ⟨rfl,rfl⟩
 refine regW.of ?_
 simp only [seval,EMW,w_none,w_eq,ag_29,sz_29]
 refine regA.one (j := 3) (by kernel_rfl) rfl (regW.alt 0 rfl ?_)
 simp only [seval,EMW,w_none,w_eq]
 refine alt_litOwn (es := List.map encApiWord [y3]) app_29 (by simp only [seval,EMW,und_29,sz_77,zero_77,(oL 2)]) (by decide) (regW.of ?_)
 simp only [seval,EMW,w_none,w_eq,und_29,sz_77,zero_77,(oL 2)]
 refine regA.draw 6 [] (by kernel_rfl) ?_
 simp only [seval,EMW,w_none,w_eq,SB,app_29,al_ApiWord,q3,fld_31_1,sz_29]
 exact ⟨rfl,rfl⟩
 refine regW.of ?_
 simp only [seval,EMW,w_none,w_eq,ag_29,sz_29]
 refine regA.one (j := 2) (by kernel_rfl) rfl (regW.of ?_)
 simp only [seval,EMW,w_none,w_eq]
 refine SpecS.by (r46_word_spec h5) (by simp only [seval,FMW]) ?_
 simp only [seval,EMW,w_none,w_eq]
 refine regA.one (j := 3) (by kernel_rfl) rfl (regW.alt 0 rfl ?_)
 simp only [seval,EMW,w_none,w_eq]
 refine alt_litOwn (es := List.map encApiWord [y3]) app_29 (by simp only [seval,EMW,und_29,sz_77,zero_77,(oL 2)]) (by decide) (regW.of ?_)
 simp only [seval,EMW,w_none,w_eq,und_29,sz_77,zero_77,(oL 2)]
 refine regA.draw 6 [] (by kernel_rfl) ?_
 simp only [seval,EMW,w_none,w_eq,SB,app_29,al_ApiWord,q3,fld_31_1,sz_29]
 exact ⟨rfl,rfl⟩
 refine regW.of ?_
 simp only [seval,EMW,w_none,w_eq,fld_31_1,sz_29]
 refine regA.two (j := 1) (k := 5) (by kernel_rfl) rfl rfl ?_ ?_
 refine regW.of ?_
 simp only [seval,EMW,w_none,w_eq]
 refine regA.two (j := 2) (k := 5) (by kernel_rfl) rfl rfl ?_ ?_
 refine regW.of ?_
 simp only [seval,EMW,w_none,w_eq]
 refine SpecS.by (r46_word_spec h5) (by simp only [seval,FMW]) ?_
 simp only [seval,EMW,w_none,w_eq]
 refine regA.two (j := 3) (k := 5) (by kernel_rfl) rfl rfl ?_ ?_
 refine regW.alt 0 rfl ?_
 simp only [seval,EMW,w_none,w_eq]
 refine alt_litOwn (es := List.map encApiWord [y3]) app_29 (by simp only [seval,EMW,und_29,sz_77,zero_77,(oL 2)]) (by decide) (regW.of ?_)
 simp only [seval,EMW,w_none,w_eq,und_29,sz_77,zero_77,(oL 2)]
 refine regA.one (j := 5) (by kernel_rfl) rfl (regW.of ?_)
 simp only [seval,EMW,w_none,w_eq,ag_29,sz_29]
 refine regA.draw 6 [] (by kernel_rfl) ?_
 simp only [seval,EMW,w_none,w_eq,SB,app_29,al_ApiWord,q3,fld_31_1,sz_29]
 exact ⟨rfl,rfl⟩
 refine regW.of ?_
 simp only [seval,EMW,w_none,w_eq,ag_29,sz_29]
 refine regA.one (j := 3) (by kernel_rfl) rfl (regW.alt 0 rfl ?_)
 simp only [seval,EMW,w_none,w_eq]
 refine alt_litOwn (es := List.map encApiWord [y3]) app_29 (by simp only [seval,EMW,und_29,sz_77,zero_77,(oL 2)]) (by decide) (regW.of ?_)
 simp only [seval,EMW,w_none,w_eq,und_29,sz_77,zero_77,(oL 2)]
 refine regA.draw 6 [] (by kernel_rfl) ?_
 simp only [seval,EMW,w_none,w_eq,SB,app_29,al_ApiWord,q3,fld_31_1,sz_29]
 exact ⟨rfl,rfl⟩
 refine regW.of ?_
 simp only [seval,EMW,w_none,w_eq,ag_29,sz_29]
 refine regA.one (j := 2) (by kernel_rfl) rfl (regW.of ?_)
 simp only [seval,EMW,w_none,w_eq]
 refine SpecS.by (r46_word_spec h5) (by simp only [seval,FMW]) ?_
 simp only [seval,EMW,w_none,w_eq]
 refine regA.one (j := 3) (by kernel_rfl) rfl (regW.alt 0 rfl ?_)
 simp only [seval,EMW,w_none,w_eq]
 refine alt_litOwn (es := List.map encApiWord [y3]) app_29 (by simp only [seval,EMW,und_29,sz_77,zero_77,(oL 2)]) (by decide) (regW.of ?_)
 simp only [seval,EMW,w_none,w_eq,und_29,sz_77,zero_77,(oL 2)]
 refine regA.draw 6 [] (by kernel_rfl) ?_
 simp only [seval,EMW,w_none,w_eq,SB,app_29,al_ApiWord,q3,fld_31_1,sz_29]
 exact ⟨rfl,rfl⟩
 refine regW.of ?_
 simp only [seval,EMW,w_none,w_eq,ag_29,sz_29]
 refine regA.one (j := 1) (by kernel_rfl) rfl (regW.of ?_)
 simp only [seval,EMW,w_none,w_eq]
 refine regA.one (j := 2) (by kernel_rfl) rfl (regW.of ?_)
 simp only [seval,EMW,w_none,w_eq]
 refine SpecS.by (r46_word_spec h5) (by simp only [seval,FMW]) ?_
 simp only [seval,EMW,w_none,w_eq]
 refine regA.one (j := 3) (by kernel_rfl) rfl (regW.alt 0 rfl ?_)
 simp only [seval,EMW,w_none,w_eq]
 refine alt_litOwn (es := List.map encApiWord [y3]) app_29 (by simp only [seval,EMW,und_29,sz_77,zero_77,(oL 2)]) (by decide) (regW.of ?_)
 simp only [seval,EMW,w_none,w_eq,und_29,sz_77,zero_77,(oL 2)]
 refine regA.draw 6 [] (by kernel_rfl) ?_
 simp only [seval,EMW,w_none,w_eq,SB,app_29,al_ApiWord,q3,fld_31_1,sz_29]
 exact ⟨rfl,rfl⟩
 refine regW.of ?_
 simp only [seval,EMW,w_none,w_eq,fld_31_1,sz_29]
 refine regA.two (j := 0) (k := 5) (by kernel_rfl) rfl rfl ?_ ?_
 refine regW.of ?_
 simp only [seval,EMW,w_none,w_eq]
 refine regA.two (j := 1) (k := 5) (by kernel_rfl) rfl rfl ?_ ?_
 refine regW.of ?_
 simp only [seval,EMW,w_none,w_eq]
 refine regA.two (j := 2) (k := 5) (by kernel_rfl) rfl rfl ?_ ?_
 refine regW.of ?_
 simp only [seval,EMW,w_none,w_eq]
 refine SpecS.by (r46_word_spec h5) (by simp only [seval,FMW]) ?_
 simp only [seval,EMW,w_none,w_eq]
 refine regA.two (j := 3) (k := 5) (by kernel_rfl) rfl rfl ?_ ?_
 refine regW.alt 0 rfl ?_
 simp only [seval,EMW,w_none,w_eq]
 refine alt_litOwn (es := List.map encApiWord [y3]) app_29 (by simp only [seval,EMW,und_29,sz_77,zero_77,(oL 2)]) (by decide) (regW.of ?_)
 simp only [seval,EMW,w_none,w_eq,und_29,sz_77,zero_77,(oL 2)]
 refine regA.one (j := 5) (by kernel_rfl) rfl (regW.of ?_)
 simp only [seval,EMW,w_none,w_eq,ag_29,sz_29]
 refine regA.draw 6 [] (by kernel_rfl) ?_
 simp only [seval,EMW,w_none,w_eq,SB,app_29,al_ApiWord,q3,fld_31_1,sz_29]
 exact ⟨rfl,rfl⟩
 refine regW.of ?_
 simp only [seval,EMW,w_none,w_eq,ag_29,sz_29]
 refine regA.one (j := 3) (by kernel_rfl) rfl (regW.alt 0 rfl ?_)
 simp only [seval,EMW,w_none,w_eq]
 refine alt_litOwn (es := List.map encApiWord [y3]) app_29 (by simp only [seval,EMW,und_29,sz_77,zero_77,(oL 2)]) (by decide) (regW.of ?_)
 simp only [seval,EMW,w_none,w_eq,und_29,sz_77,zero_77,(oL 2)]
 refine regA.draw 6 [] (by kernel_rfl) ?_
 simp only [seval,EMW,w_none,w_eq,SB,app_29,al_ApiWord,q3,fld_31_1,sz_29]
 exact ⟨rfl,rfl⟩
 refine regW.of ?_
 simp only [seval,EMW,w_none,w_eq,ag_29,sz_29]
 refine regA.one (j := 2) (by kernel_rfl) rfl (regW.of ?_)
 simp only [seval,EMW,w_none,w_eq]
 refine SpecS.by (r46_word_spec h5) (by simp only [seval,FMW]) ?_
 simp only [seval,EMW,w_none,w_eq]
 refine regA.one (j := 3) (by kernel_rfl) rfl (regW.alt 0 rfl ?_)
 simp only [seval,EMW,w_none,w_eq]
 refine alt_litOwn (es := List.map encApiWord [y3]) app_29 (by simp only [seval,EMW,und_29,sz_77,zero_77,(oL 2)]) (by decide) (regW.of ?_)
 simp only [seval,EMW,w_none,w_eq,und_29,sz_77,zero_77,(oL 2)]
 refine regA.draw 6 [] (by kernel_rfl) ?_
 simp only [seval,EMW,w_none,w_eq,SB,app_29,al_ApiWord,q3,fld_31_1,sz_29]
 exact ⟨rfl,rfl⟩
 refine regW.of ?_
 simp only [seval,EMW,w_none,w_eq,ag_29,sz_29]
 refine regA.one (j := 1) (by kernel_rfl) rfl (regW.of ?_)
 simp only [seval,EMW,w_none,w_eq]
 refine regA.one (j := 2) (by kernel_rfl) rfl (regW.of ?_)
 simp only [seval,EMW,w_none,w_eq]
 refine SpecS.by (r46_word_spec h5) (by simp only [seval,FMW]) ?_
 simp only [seval,EMW,w_none,w_eq]
 refine regA.one (j := 3) (by kernel_rfl) rfl (regW.alt 0 rfl ?_)
 simp only [seval,EMW,w_none,w_eq]
 refine alt_litOwn (es := List.map encApiWord [y3]) app_29 (by simp only [seval,EMW,und_29,sz_77,zero_77,(oL 2)]) (by decide) (regW.of ?_)
 simp only [seval,EMW,w_none,w_eq,und_29,sz_77,zero_77,(oL 2)]
 refine regA.draw 6 [] (by kernel_rfl) ?_
 simp only [seval,EMW,w_none,w_eq,SB,app_29,al_ApiWord,q3,fld_31_1,sz_29]
 exact ⟨rfl,rfl⟩
 refine regW.of ?_
 simp only [seval,EMW,w_none,w_eq,ag_29,sz_29]
 refine regA.one (j := 0) (by kernel_rfl) rfl (regW.of ?_)
 simp only [seval,EMW,w_none,w_eq]
 refine regA.one (j := 1) (by kernel_rfl) rfl (regW.of ?_)
 simp only [seval,EMW,w_none,w_eq]
 refine regA.one (j := 2) (by kernel_rfl) rfl (regW.of ?_)
 simp only [seval,EMW,w_none,w_eq]
 refine SpecS.by (r46_word_spec h5) (by simp only [seval,FMW]) ?_
 simp only [seval,EMW,w_none,w_eq]
 refine regA.one (j := 3) (by kernel_rfl) rfl (regW.alt 0 rfl ?_)
 simp only [seval,EMW,w_none,w_eq]
 refine alt_litOwn (es := List.map encApiWord [y3]) app_29 (by simp only [seval,EMW,und_29,sz_77,zero_77,(oL 2)]) (by decide) (regW.of ?_)
 simp only [seval,EMW,w_none,w_eq,und_29,sz_77,zero_77,(oL 2)]
 refine regA.draw 6 [] (by kernel_rfl) ?_
 simp only [seval,EMW,w_none,w_eq,SB,app_29,al_ApiWord,q3,fld_31_1,sz_29]
 exact ⟨rfl,rfl⟩
 cases h
 simp only [seval,FMW,Tryz.results50]
 refine .skip fun e h=>?_
 cases h
 simp only [seval,FMW,Tryz.results50]
 intro v3
 refine Mir.toK (.guard fun q4=>.region fun e h=>?_)
 simp only [seval,EMW,ag_31,sz_31,und_39,zero_31,(oL 3),app_39,al_ApiBlock,q4]
 refine mU e (.region fun e h=>?_) h
 simp only [seval,EMW]
 cases h
 simp only [seval,FMW,Tryz.results50,q2]
 intro v1 q5
 refine .seqK (.sR fun e h=>?_)
 simp only [seval,EMW,und_39,q5]
 refine mU e (.condF rfl (.exit fun e h=>?_)) h
 cases h
 simp only [seval,FMW,Tryz.results50]
 intro v4
 refine Mir.toK (.sR fun e h=>?_)
 simp only [seval,EMW]
 refine mU e (.ret fun e h=>?_) h
 cases h
 simp only [seval,FMW,Tryz.results50]
def r46_Blocks (a0 : (List ApiStage)) (a1 : ApiPos) (a2 : R46Options) : Option ((List ApiBlock) × Int) := bindO (r46_Plain a0 a1 a2) fun (y1 : (List ApiBlock) × Int) => if (y1.2 != 0) = true then some ([], y1.2) else bindO (if a2.Compress = true then bindO (r42_New ) fun (y2 : R42State) => bindO (r42_Compress y2 y1.1) fun (y3 : (List ApiBlock) × Int) => some y3.1 else some y1.1) fun (v1 : (List ApiBlock)) => bindO (if (decide (a2.Fold > 0)) = true then bindO (r43_Fold v1 1000 a2.Fold) fun (y4 : R43Program × Int) => bindO (r43_Join y4.1) fun (y5 : (List ApiBlock)) => some y5 else some v1) fun (v2 : (List ApiBlock)) => bindO (if (decide (a2.Numbers > 0)) = true then bindO (r46_numbered v2 a2.Numbers) fun (y6 : (List ApiBlock)) => some y6 else some v2) fun (v3 : (List ApiBlock)) => if (decide ((v3.length : Int) > 20000)) = true then some ([], 3) else some (v3, 0)
theorem r46_Blocks_spec {a0 : (List ApiStage)} {a1 : ApiPos} {a2 : R46Options} {y : (List ApiBlock) × Int} (h : r46_Blocks a0 a1 a2 = some y) : Spec gP 20 [.d (.list (List.map encApiStage a0)), .agg [.d (.int .i64 a1.X), .d (.int .i64 a1.Y), .d (.int .i64 a1.Z)], .agg [.d (.int .i64 a2.Work), .d (.bool a2.Compress), .d (.int .i64 a2.Numbers), .d (.int .i64 a2.Fold)]] (.tuple [.d (.list (List.map encApiBlock y.1)), .d (.int .i64 y.2)]) := by
 refine spec_mir Tryz.func20 rfl (by kernel_rfl) (by kernel_rfl) (fun y : (List ApiBlock) × Int => .tuple [.d (.list (List.map encApiBlock y.1)), .d (.int .i64 y.2)]) ?_ h
 unfold r46_Blocks
 simp only [List.replicate, List.length, nS, nA, Tryz.ntmps20, SV]
 refine .sR fun e h=>?_
 simp only [seval,EMW]
 refine mU e (.seqK (.bind fun y1 hy1=>.region fun e h=>?_)) h
 simp only [seval,EMW,ag_23,sz_23,ag_38,sz_38]
 refine SpecS.by (r46_Plain_spec hy1) (by simp only [seval,FMW]) ?_
 simp only [seval,EMW]
 refine mU e (.seqK (.sR fun e h=>?_)) h
 simp only [seval,EMW]
 refine mU e (.cond rfl (fun hb3=>?_) (fun hb3=>?_)) h
 refine .sR fun e h=>?_
 simp only [seval,EMW]
 refine mU e (.ret fun e h=>?_) h
 cases h
 simp only [seval,FMW,Tryz.results20]
 refine .skip (Mir.toK (.seqK (.sR fun e h=>?_)))
 simp only [seval,EMW,fld_38_1,sz_4,ag_4]
 refine mU e (Mir.joinO (fun v1 : (List ApiBlock)=>([U,U,U,U,U,.ptr 1 0,U,U,.d (.list (List.map encApiBlock v1))] ++ us 44)) (fun v1=>⟨[[.d (.int .i64 a1.X),.d (.int .i64 a1.Y),.d (.int .i64 a1.Z)],[.d (.int .i64 a2.Work),.d (.bool a2.Compress),.d (.int .i64 a2.Numbers),.d (.int .i64 a2.Fold)]],[]⟩) (fun _=>rfl) ?_ ?_) h
 refine .cond rfl (fun hb7=>?_) (fun hb7=>?_)
 refine .bind fun y2 hy8=>.bind fun y3 hy9=>.region fun e h=>?_
 simp only [seval,EMW]
 refine SpecS.by (r42_New_spec hy8) (rfl) ?_
 simp only [seval,EMW]
 refine SpecS.by (r42_Compress_spec hy9) (by simp only [seval,FMW]) ?_
 simp only [seval,EMW]
 cases h
 simp only [seval,FMW,Tryz.results20]
 refine .skip fun e h=>?_
 cases h
 simp only [seval,FMW,Tryz.results20]
 intro v1
 refine Mir.toK (.seqK (.sR fun e h=>?_))
 simp only [seval,EMW,fld_38_3,sz_3,ag_3]
 refine mU e (Mir.joinO (fun v2 : (List ApiBlock)=>([U,U,U,U,U,.ptr 1 0,U,U,.d (.list (List.map encApiBlock v2))] ++ us 44)) (fun v2=>⟨[[.d (.int .i64 a1.X),.d (.int .i64 a1.Y),.d (.int .i64 a1.Z)],[.d (.int .i64 a2.Work),.d (.bool a2.Compress),.d (.int .i64 a2.Numbers),.d (.int .i64 a2.Fold)]],[]⟩) (fun _=>rfl) ?_ ?_) h
 refine .cond rfl (fun hb13=>?_) (fun hb13=>?_)
 refine .seqK (.bind fun y4 hy14=>.region fun e h=>?_)
 simp only [seval,EMW,fld_38_3,sz_3,ag_3]
 refine SpecS.by (r43_Fold_spec hy14) (by simp only [seval,FMW]) ?_
 simp only [seval,EMW,zero_93,sz_93]
 refine mU e (.bind fun y5 hy15=>.region fun e h=>?_) h
 simp only [seval,EMW,ag_93,sz_93]
 refine SpecS.by (r43_Join_spec hy15) (by simp only [seval,FMW]) ?_
 simp only [seval,EMW]
 cases h
 simp only [seval,FMW,Tryz.results20]
 refine .skip fun e h=>?_
 cases h
 simp only [seval,FMW,Tryz.results20]
 intro v2
 refine Mir.toK (.seqK (.sR fun e h=>?_))
 simp only [seval,EMW,fld_38_2,sz_2,ag_2]
 refine mU e (Mir.joinO (fun v3 : (List ApiBlock)=>([U,U,U,U,U,U,U,U,.d (.list (List.map encApiBlock v3))] ++ us 44)) (fun v3=>⟨[[.d (.int .i64 a1.X),.d (.int .i64 a1.Y),.d (.int .i64 a1.Z)],[.d (.int .i64 a2.Work),.d (.bool a2.Compress),.d (.int .i64 a2.Numbers),.d (.int .i64 a2.Fold)]],[]⟩) (fun _=>rfl) ?_ ?_) h
 refine .cond rfl (fun hb18=>?_) (fun hb18=>?_)
 refine .bind fun y6 hy19=>.region fun e h=>?_
 simp only [seval,EMW,fld_38_2,sz_2,ag_2]
 refine SpecS.by (r46_numbered_spec hy19) (by simp only [seval,FMW]) ?_
 simp only [seval,EMW]
 cases h
 simp only [seval,FMW,Tryz.results20]
 refine .skip fun e h=>?_
 cases h
 simp only [seval,FMW,Tryz.results20]
 intro v3
 refine Mir.toK (.seqK (.sR fun e h=>?_))
 simp only [seval,EMW,und_39]
 refine mU e (.cond rfl (fun hb21=>?_) (fun hb21=>?_)) h
 refine .sR fun e h=>?_
 simp only [seval,EMW]
 refine mU e (.ret fun e h=>?_) h
 cases h
 simp only [seval,FMW,Tryz.results20]
 refine .skip (Mir.toK (.sR fun e h=>?_))
 simp only [seval,EMW]
 refine mU e (.ret fun e h=>?_) h
 cases h
 simp only [seval,FMW,Tryz.results20]
end Go.Proofs.YtejknolljjpodaaGreatDoor
