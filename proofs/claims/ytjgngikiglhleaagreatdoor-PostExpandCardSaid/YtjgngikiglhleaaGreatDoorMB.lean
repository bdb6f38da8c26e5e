import Derived.Test.YtjgngikiglhleaaGreatDoorGx
import Derived.Test.YtjgngikiglhleaaGreatDoorTy
import Derived.Test.YtjgngikiglhleaaGreatDoorBu
import Derived.Test.YtjgngikiglhleaaGreatDoorGz
import Derived.Test.YtjgngikiglhleaaGreatDoorLb
import Derived.Test.YtjgngikiglhleaaGreatDoorSzz
namespace Go.Proofs.YtjgngikiglhleaaGreatDoor
open Go.RowKit
open Nat renaming reduceAdd → nA,reduceSub → nS,reduceMul → nM,reduceEqDiff → nE,reduceLeDiff → nL,reduceLT → nT,reduceBEq → nB
open Int renaming reduceLT → iT,reduceToNat → iN,reduceEq → iE
set_option linter.unusedVariables false
set_option linter.unusedSimpArgs false
set_option maxRecDepth 100000
set_option maxHeartbeats 8000000
structure ApiPos where
 X : Int
 Y : Int
 Z : Int
 deriving DecidableEq
def encApiPos (x : ApiPos) : List D := [.int .i64 x.X,.int .i64 x.Y,.int .i64 x.Z]
structure ApiGrid2 where
 X : Int
 Y : Int
 deriving DecidableEq
def encApiGrid2 (x : ApiGrid2) : List D := [.int .i64 x.X,.int .i64 x.Y]
structure ApiMove where
 Kind : Int
 To : ApiPos
 Center : ApiGrid2
 Rate : Int
 deriving DecidableEq
def encApiMove (x : ApiMove) : List D := [.int .i64 x.Kind,.int .i64 x.To.X,.int .i64 x.To.Y,.int .i64 x.To.Z,.int .i64 x.Center.X,.int .i64 x.Center.Y,.int .i64 x.Rate]
structure ApiWord where
 Letter : Int
 Value : Int
 deriving DecidableEq
def encApiWord (x : ApiWord) : List D := [.int .u8 x.Letter,.int .i64 x.Value]
theorem al_ApiWord {l : List ApiWord} : (List.map encApiWord l).all (fun x=>x.length == 2) = true := by simp [List.all_eq_true,encApiWord]
structure ApiBlock where
 Skip : Bool
 Words : (List ApiWord)
 Comment : (List UInt8)
 deriving DecidableEq
def encApiBlock (x : ApiBlock) : List D := [.bool x.Skip,.list (List.map encApiWord x.Words),.str x.Comment]
theorem al_ApiBlock {l : List ApiBlock} : (List.map encApiBlock l).all (fun x=>x.length == 3) = true := by simp [List.all_eq_true,encApiBlock]
structure ApiStage where
 Tool : Int
 Moves : (List ApiMove)
 deriving DecidableEq
def encApiStage (x : ApiStage) : List D := [.int .i64 x.Tool,.list (List.map encApiMove x.Moves)]
structure PostOptions where
 Work : Int
 Compress : Bool
 Numbers : Int
 Fold : Int
 deriving DecidableEq
def encPostOptions (x : PostOptions) : List D := [.int .i64 x.Work,.bool x.Compress,.int .i64 x.Numbers,.int .i64 x.Fold]
structure ModalState where
 Motion : Int
 Distance : Int
 Work : Int
 Length : Int
 Return : Int
 Feed : Int
 Tool : Int
 Offset : Int
 deriving DecidableEq
def encModalState (x : ModalState) : List D := [.int .i64 x.Motion,.int .i64 x.Distance,.int .i64 x.Work,.int .i64 x.Length,.int .i64 x.Return,.int .i64 x.Feed,.int .i64 x.Tool,.int .i64 x.Offset]
structure SubprogramSub where
 Number : Int
 Blocks : (List ApiBlock)
 deriving DecidableEq
def encSubprogramSub (x : SubprogramSub) : List D := [.int .i64 x.Number,.list (List.map encApiBlock x.Blocks)]
theorem al_SubprogramSub {l : List SubprogramSub} : (List.map encSubprogramSub l).all (fun x=>x.length == 2) = true := by simp [List.all_eq_true,encSubprogramSub]
structure SubprogramProgram where
 Main : (List ApiBlock)
 Subs : (List SubprogramSub)
 deriving DecidableEq
def encSubprogramProgram (x : SubprogramProgram) : List D := [.list (List.map encApiBlock x.Main),.list (List.map encSubprogramSub x.Subs)]
theorem ENMB : type_of% (And.intro @encApiPos.eq_1 <| And.intro @encApiGrid2.eq_1 <| And.intro @encApiMove.eq_1 <| And.intro @encApiWord.eq_1 <| And.intro @encApiBlock.eq_1 <| And.intro @encApiStage.eq_1 <| And.intro @encPostOptions.eq_1 <| And.intro @encModalState.eq_1 <| And.intro @encSubprogramSub.eq_1 <| @encSubprogramProgram.eq_1) := And.intro @encApiPos.eq_1 <| And.intro @encApiGrid2.eq_1 <| And.intro @encApiMove.eq_1 <| And.intro @encApiWord.eq_1 <| And.intro @encApiBlock.eq_1 <| And.intro @encApiStage.eq_1 <| And.intro @encPostOptions.eq_1 <| And.intro @encModalState.eq_1 <| And.intro @encSubprogramSub.eq_1 <| @encSubprogramProgram.eq_1
theorem EMB : type_of% (And.intro @SE <| @ENMB) := And.intro @SE <| @ENMB
theorem FMB : type_of% (And.intro @SF <| @ENMB) := And.intro @SF <| @ENMB
def ip_apart (a0 : Int) (a1 : Int) : Option Int := bindO (if (decide (a0 < a1)) = true then some (a1,a0) else some (a0,a1)) fun (v1 : Int × Int)=>some (IntKind.u64.wrap ((IntKind.u64.wrap v1.1) - (IntKind.u64.wrap v1.2)))
theorem ip_apart_spec {a0 : Int} {a1 : Int} {y : Int} (h : ip_apart a0 a1 = some y) : Spec gP 68 [.d (.int .i64 a0),.d (.int .i64 a1)] (.d (.int .u64 y)) := by
 refine spec_mir Tryz.func68 rfl (by kernel_rfl) (by kernel_rfl) (fun y : Int=>.d (.int .u64 y)) ?_ h
 unfold ip_apart
 simp only [List.replicate,List.length,nS,nA,Tryz.ntmps68,SV]
 refine .sR fun e h=>?_
 simp only [seval,EMB]
 refine mU e (.seqK (.sR fun e h=>?_)) h
 simp only [seval,EMB]
 refine mU e (Mir.joinO (fun v1 : Int × Int=>([.d (.int .i64 v1.1),.d (.int .i64 v1.2)] ++ us 13)) (fun v1=>⟨[],[]⟩) (fun _=>rfl) ?_ ?_) h
 refine .cond rfl (fun hb2=>?_) (fun hb2=>?_)
 refine .region fun e h=>?_
 simp only [seval,EMB]
 cases h
 simp only [seval,FMB,Tryz.results68]
 refine .skip fun e h=>?_
 cases h
 simp only [seval,FMB,Tryz.results68]
 intro v1
 refine Mir.toK (.sR fun e h=>?_)
 simp only [seval,EMB,und_2,und_125]
 refine mU e (.ret fun e h=>?_) h
 cases h
 simp only [seval,FMB,Tryz.results68]
def ip_point (a0 : ApiPos) (a1 : ApiGrid2) : Option (Int × Int) := if ((a0.Y == a1.Y) && (decide (a0.X > a1.X))) = true then bindO (ip_apart a0.X a1.X) fun (y1 : Int)=>some (0,y1) else if ((a0.X == a1.X) && (decide (a0.Y > a1.Y))) = true then bindO (ip_apart a0.Y a1.Y) fun (y2 : Int)=>some (1,y2) else if ((a0.Y == a1.Y) && (decide (a0.X < a1.X))) = true then bindO (ip_apart a0.X a1.X) fun (y3 : Int)=>some (2,y3) else if ((a0.X == a1.X) && (decide (a0.Y < a1.Y))) = true then bindO (ip_apart a0.Y a1.Y) fun (y4 : Int)=>some (3,y4) else some (0,0)
theorem ip_point_spec {a0 : ApiPos} {a1 : ApiGrid2} {y : Int × Int} (h : ip_point a0 a1 = some y) : Spec gP 67 [.agg [.d (.int .i64 a0.X),.d (.int .i64 a0.Y),.d (.int .i64 a0.Z)],.agg [.d (.int .i64 a1.X),.d (.int .i64 a1.Y)]] (.tuple [.d (.int .i64 y.1),.d (.int .u64 y.2)]) := by
 refine spec_mir Tryz.func67 rfl (by kernel_rfl) (by kernel_rfl) (fun y : Int × Int=>.tuple [.d (.int .i64 y.1),.d (.int .u64 y.2)]) ?_ h
 unfold ip_point
 simp only [List.replicate,List.length,nS,nA,Tryz.ntmps67,SV]
 refine .sR fun e h=>?_
 simp only [seval,EMB]
 refine mU e (.seqK (.block (.seqK (.joinV ([U,U,.ptr 0 0,.ptr 1 0,U,U,.d (.bool ((a0.Y == a1.Y) && (decide (a0.X > a1.X))))] ++ us 71) ⟨[[.d (.int .i64 a0.X),.d (.int .i64 a0.Y),.d (.int .i64 a0.Z)],[.d (.int .i64 a1.X),.d (.int .i64 a1.Y)]],[]⟩ rfl ?_ ?_)))) h
 refine SWs.region ?_
 rcases Bool.eq_false_or_eq_true (a0.Y == a1.Y) with hb13 | hb13
 simp only [seval,EMB,SL,PB,fld_24_1,sz_2,ag_2,fld_52_1,fld_24_0,fld_52_0,hb13]
 simp only [seval,EMB,SL,PB,fld_24_1,sz_2,ag_2,fld_52_1,hb13]
 refine Mir.toK (.cond rfl (fun hb25=>?_) (fun hb25=>?_))
 refine .seqK (.bind fun y1 hy26=>.region fun e h=>?_)
 simp only [seval,EMB,fld_24_0,sz_2,ag_2,fld_52_0]
 refine SpecS.by (ip_apart_spec hy26) (by simp only [seval,FMB]) ?_
 simp only [seval,EMB]
 refine mU e (.ret fun e h=>?_) h
 cases h
 simp only [seval,FMB,Tryz.results67]
 refine .seqK (.joinV ([U,U,.ptr 0 0,.ptr 1 0,U,U,U,U,U,U,U,U,U,U,U,U,U,U,U,U,U,U,U,U,.d (.bool ((a0.X == a1.X) && (decide (a0.Y > a1.Y))))] ++ us 53) ⟨[[.d (.int .i64 a0.X),.d (.int .i64 a0.Y),.d (.int .i64 a0.Z)],[.d (.int .i64 a1.X),.d (.int .i64 a1.Y)]],[]⟩ rfl ?_ ?_)
 refine SWs.region ?_
 rcases Bool.eq_false_or_eq_true (a0.X == a1.X) with hb27 | hb27
 simp only [seval,EMB,SL,PB,fld_24_0,sz_2,ag_2,fld_52_0,fld_24_1,fld_52_1,hb27]
 simp only [seval,EMB,SL,PB,fld_24_0,sz_2,ag_2,fld_52_0,hb27]
 refine Mir.toK (.cond rfl (fun hb36=>?_) (fun hb36=>?_))
 refine .seqK (.bind fun y2 hy37=>.region fun e h=>?_)
 simp only [seval,EMB,fld_24_1,sz_2,ag_2,fld_52_1]
 refine SpecS.by (ip_apart_spec hy37) (by simp only [seval,FMB]) ?_
 simp only [seval,EMB]
 refine mU e (.ret fun e h=>?_) h
 cases h
 simp only [seval,FMB,Tryz.results67]
 refine .seqK (.joinV ([U,U,.ptr 0 0,.ptr 1 0,U,U,U,U,U,U,U,U,U,U,U,U,U,U,U,U,U,U,U,U,U,U,U,U,U,U,U,U,U,U,U,U,U,U,U,U,U,U,.d (.bool ((a0.Y == a1.Y) && (decide (a0.X < a1.X))))] ++ us 35) ⟨[[.d (.int .i64 a0.X),.d (.int .i64 a0.Y),.d (.int .i64 a0.Z)],[.d (.int .i64 a1.X),.d (.int .i64 a1.Y)]],[]⟩ rfl ?_ ?_)
 refine SWs.region ?_
 rcases Bool.eq_false_or_eq_true (a0.Y == a1.Y) with hb38 | hb38
 simp only [seval,EMB,SL,PB,fld_24_1,sz_2,ag_2,fld_52_1,fld_24_0,fld_52_0,hb38]
 simp only [seval,EMB,SL,PB,fld_24_1,sz_2,ag_2,fld_52_1,hb38]
 refine Mir.toK (.cond rfl (fun hb44=>?_) (fun hb44=>?_))
 refine .seqK (.bind fun y3 hy45=>.region fun e h=>?_)
 simp only [seval,EMB,fld_24_0,sz_2,ag_2,fld_52_0]
 refine SpecS.by (ip_apart_spec hy45) (by simp only [seval,FMB]) ?_
 simp only [seval,EMB]
 refine mU e (.ret fun e h=>?_) h
 cases h
 simp only [seval,FMB,Tryz.results67]
 refine .seqK (.joinV ([U,U,.ptr 0 0,.ptr 1 0,U,U,U,U,U,U,U,U,U,U,U,U,U,U,U,U,U,U,U,U,U,U,U,U,U,U,U,U,U,U,U,U,U,U,U,U,U,U,U,U,U,U,U,U,U,U,U,U,U,U,U,U,U,U,U,U,.d (.bool ((a0.X == a1.X) && (decide (a0.Y < a1.Y))))] ++ us 17) ⟨[[.d (.int .i64 a0.X),.d (.int .i64 a0.Y),.d (.int .i64 a0.Z)],[.d (.int .i64 a1.X),.d (.int .i64 a1.Y)]],[]⟩ rfl ?_ ?_)
 refine SWs.region ?_
 rcases Bool.eq_false_or_eq_true (a0.X == a1.X) with hb46 | hb46
 simp only [seval,EMB,SL,PB,fld_24_0,sz_2,ag_2,fld_52_0,fld_24_1,fld_52_1,hb46]
 simp only [seval,EMB,SL,PB,fld_24_0,sz_2,ag_2,fld_52_0,hb46]
 refine Mir.toK (.cond rfl (fun hb49=>?_) (fun hb49=>?_))
 refine .seqK (.bind fun y4 hy50=>.region fun e h=>?_)
 simp only [seval,EMB,fld_24_1,sz_2,ag_2,fld_52_1]
 refine SpecS.by (ip_apart_spec hy50) (by simp only [seval,FMB]) ?_
 simp only [seval,EMB]
 refine mU e (.ret fun e h=>?_) h
 cases h
 simp only [seval,FMB,Tryz.results67]
 refine .skip (Mir.toB (Mir.toK (.sR fun e h=>?_)))
 simp only [seval,EMB]
 refine mU e (.ret fun e h=>?_) h
 cases h
 simp only [seval,FMB,Tryz.results67]
def ip_isArc (a0 : ApiMove) : Option Bool := some ((a0.Kind == 3) || (a0.Kind == 4))
theorem ip_isArc_spec {a0 : ApiMove} {y : Bool} (h : ip_isArc a0 = some y) : Spec gP 66 [.agg [.d (.int .i64 a0.Kind),.d (.int .i64 a0.To.X),.d (.int .i64 a0.To.Y),.d (.int .i64 a0.To.Z),.d (.int .i64 a0.Center.X),.d (.int .i64 a0.Center.Y),.d (.int .i64 a0.Rate)]] (.d (.bool y)) := by
 refine spec_mir Tryz.func66 rfl (by kernel_rfl) (by kernel_rfl) (fun y : Bool=>.d (.bool y)) ?_ h
 unfold ip_isArc
 simp only [List.replicate,List.length,nS,nA,Tryz.ntmps66,SV]
 refine .sR fun e h=>?_
 simp only [seval,EMB]
 refine mU e (.seqK (.joinV ([U,U,.d (.bool ((a0.Kind == 3) || (a0.Kind == 4)))] ++ us 8) ⟨[[.d (.int .i64 a0.Kind),.d (.int .i64 a0.To.X),.d (.int .i64 a0.To.Y),.d (.int .i64 a0.To.Z),.d (.int .i64 a0.Center.X),.d (.int .i64 a0.Center.Y),.d (.int .i64 a0.Rate)]],[]⟩ rfl ?_ ?_)) h
 refine SWs.region ?_
 rcases Bool.eq_false_or_eq_true (a0.Kind == 3) with hb1 | hb1
 simp only [seval,EMB,SL,PB,fld_54_0,sz_3,ag_3,hb1]
 simp only [seval,EMB,SL,PB,fld_54_0,sz_3,ag_3,hb1]
 refine Mir.toK (.ret fun e h=>?_)
 cases h
 simp only [seval,FMB,Tryz.results66]
def ip_right (a0 : ApiPos) (a1 : ApiMove) : Option Bool := if (a1.Kind == 1) = true then some (a1.Rate == 0) else if (a1.Kind == 2) = true then some (decide (a1.Rate > 0)) else bindO (ip_point a0 a1.Center) fun (y1 : Int × Int)=>bindO (ip_point a1.To a1.Center) fun (y2 : Int × Int)=>bindO (bindO (ip_isArc (ApiMove.mk a1.Kind a1.To a1.Center a1.Rate)) fun (y3 : Bool)=>if y3 = true then if (decide (a1.Rate > 0)) = true then if (decide (y1.2 > 0)) = true then some (y1.2 == y2.2) else some false else some false else some false) fun (v1 : Bool)=>some v1
theorem ip_right_spec {a0 : ApiPos} {a1 : ApiMove} {y : Bool} (h : ip_right a0 a1 = some y) : Spec gP 65 [.agg [.d (.int .i64 a0.X),.d (.int .i64 a0.Y),.d (.int .i64 a0.Z)],.agg [.d (.int .i64 a1.Kind),.d (.int .i64 a1.To.X),.d (.int .i64 a1.To.Y),.d (.int .i64 a1.To.Z),.d (.int .i64 a1.Center.X),.d (.int .i64 a1.Center.Y),.d (.int .i64 a1.Rate)]] (.d (.bool y)) := by
 refine spec_mir Tryz.func65 rfl (by kernel_rfl) (by kernel_rfl) (fun y : Bool=>.d (.bool y)) ?_ h
 unfold ip_right
 simp only [List.replicate,List.length,nS,nA,Tryz.ntmps65,SV]
 refine .sR fun e h=>?_
 simp only [seval,EMB]
 refine mU e (.seqK (.sR fun e h=>?_)) h
 simp only [seval,EMB,fld_54_0,sz_3,ag_3]
 refine mU e (.block (.sR fun e h=>?_)) h
 simp only [seval,EMB]
 refine mU e (.cond rfl (fun hb5=>?_) (fun hb5=>?_)) h
 refine .sR fun e h=>?_
 simp only [seval,EMB,fld_54_3,sz_2,ag_2]
 refine mU e (.ret fun e h=>?_) h
 cases h
 simp only [seval,FMB,Tryz.results65]
 refine .sR fun e h=>?_
 simp only [seval,EMB]
 refine mU e (.cond rfl (fun hb7=>?_) (fun hb7=>?_)) h
 refine .sR fun e h=>?_
 simp only [seval,EMB,fld_54_3,sz_2,ag_2]
 refine mU e (.ret fun e h=>?_) h
 cases h
 simp only [seval,FMB,Tryz.results65]
 refine .skip (Mir.toB (Mir.toK (.seqK (.bind fun y1 hy8=>.region fun e h=>?_))))
 simp only [seval,EMB,ag_24,sz_24,fld_54_2,sz_52,ag_52]
 refine SpecS.by (ip_point_spec hy8) (by simp only [seval,FMB]) ?_
 simp only [seval,EMB]
 refine mU e (.seqK (.bind fun y2 hy9=>.region fun e h=>?_)) h
 simp only [seval,EMB,fld_54_1,sz_24,ag_24,fld_54_2,sz_52,ag_52]
 refine SpecS.by (ip_point_spec hy9) (by simp only [seval,FMB]) ?_
 simp only [seval,EMB]
 refine mU e (.seqK (Mir.joinO (fun v1 : Bool=>([U,U,U,U,.d (.bool v1)] ++ us 47)) (fun v1=>⟨[[.d (.int .i64 a0.X),.d (.int .i64 a0.Y),.d (.int .i64 a0.Z)],[.d (.int .i64 a1.Kind),.d (.int .i64 a1.To.X),.d (.int .i64 a1.To.Y),.d (.int .i64 a1.To.Z),.d (.int .i64 a1.Center.X),.d (.int .i64 a1.Center.Y),.d (.int .i64 a1.Rate)]],[]⟩) (fun _=>rfl) ?_ ?_)) h
 refine .bind fun y3 hy10=>.ite (fun hb11=>?_) (fun hb11=>?_)
 refine .ite (fun hb12=>?_) (fun hb12=>?_)
 refine .ite (fun hb13=>?_) (fun hb13=>?_)
 refine .region fun e h=>?_
 simp only [seval,EMB,ag_54,sz_54,hb11,hb12,hb13]
 refine SpecS.by (ip_isArc_spec hy10) (by simp only [seval,FMB,hb11,hb12,hb13]) ?_
 simp only [seval,EMB,fld_54_3,sz_2,ag_2,hb11,hb12,hb13]
 cases h
 simp only [seval,FMB,hb11,hb12,hb13]
 refine .region fun e h=>?_
 simp only [seval,EMB,ag_54,sz_54,hb11,hb12,hb13]
 refine SpecS.by (ip_isArc_spec hy10) (by simp only [seval,FMB,hb11,hb12,hb13]) ?_
 simp only [seval,EMB,fld_54_3,sz_2,ag_2,hb11,hb12,hb13]
 cases h
 simp only [seval,FMB,hb11,hb12,hb13]
 refine .region fun e h=>?_
 simp only [seval,EMB,ag_54,sz_54,hb11,hb12]
 refine SpecS.by (ip_isArc_spec hy10) (by simp only [seval,FMB,hb11,hb12]) ?_
 simp only [seval,EMB,fld_54_3,sz_2,ag_2,hb11,hb12]
 cases h
 simp only [seval,FMB,hb11,hb12]
 refine .region fun e h=>?_
 simp only [seval,EMB,ag_54,sz_54,hb11]
 refine SpecS.by (ip_isArc_spec hy10) (by simp only [seval,FMB,hb11]) ?_
 simp only [seval,EMB,hb11]
 cases h
 simp only [seval,FMB,hb11]
 intro v1
 refine Mir.toK (.ret fun e h=>?_)
 cases h
 simp only [seval,FMB,Tryz.results65]
def ip_Valid (a0 : ApiPos) (a1 : ApiMove) : Option Int := bindO (ip_right (ApiPos.mk a0.X a0.Y a0.Z) (ApiMove.mk a1.Kind a1.To a1.Center a1.Rate)) fun (y1 : Bool)=>if (!y1) = true then some 1 else bindO (ip_isArc (ApiMove.mk a1.Kind a1.To a1.Center a1.Rate)) fun (y2 : Bool)=>bindX (if y2 = true then bindO (ip_point (ApiPos.mk a0.X a0.Y a0.Z) a1.Center) fun (y3 : Int × Int)=>bindO (if (decide (y3.2 > 10000000)) = true then some true else bindO (ip_apart a1.Center.X 0) fun (y4 : Int)=>if (decide (y4 > 10000000)) = true then some true else bindO (ip_apart a1.Center.Y 0) fun (y5 : Int)=>some (decide (y5 > 10000000))) fun (v1 : Bool)=>if v1 = true then some (.ret 11) else some (.go [a0.X,a0.Y,a0.Z,a1.To.X,a1.To.Y,a1.To.Z,IntKind.i64.wrap (a1.Center.X + (IntKind.i64.wrap y3.2)),IntKind.i64.wrap (a1.Center.X - (IntKind.i64.wrap y3.2)),IntKind.i64.wrap (a1.Center.Y + (IntKind.i64.wrap y3.2)),IntKind.i64.wrap (a1.Center.Y - (IntKind.i64.wrap y3.2))]) else some (.go [a0.X,a0.Y,a0.Z,a1.To.X,a1.To.Y,a1.To.Z])) fun (v2 : (List Int))=>bindX (guardO (okIdx v2) ( rangeX (fun (i1 : Nat) (e1 : Int) (v3 : Unit)=>bindO (ip_apart e1 0) fun (y6 : Int)=>if (decide (y6 > 10000000)) = true then some (.ret (.ret 11)) else some (.go ())) (fun (v3 : Unit)=>some (.go ())) v2 0 ())) fun (v4 : Unit)=>some 0
theorem ip_Valid_spec {a0 : ApiPos} {a1 : ApiMove} {y : Int} (h : ip_Valid a0 a1 = some y) : Spec gP 37 [.agg [.d (.int .i64 a0.X),.d (.int .i64 a0.Y),.d (.int .i64 a0.Z)],.agg [.d (.int .i64 a1.Kind),.d (.int .i64 a1.To.X),.d (.int .i64 a1.To.Y),.d (.int .i64 a1.To.Z),.d (.int .i64 a1.Center.X),.d (.int .i64 a1.Center.Y),.d (.int .i64 a1.Rate)]] (.d (.int .i64 y)) := by
 refine spec_mir Tryz.func37 rfl (by kernel_rfl) (by kernel_rfl) (fun y : Int=>.d (.int .i64 y)) ?_ h
 unfold ip_Valid
 simp only [List.replicate,List.length,nS,nA,Tryz.ntmps37,SV]
 refine .sR fun e h=>?_
 simp only [seval,EMB,eInt]
 refine mU e (.seqK (.seqK (.bind fun y1 hy1=>.region fun e h=>?_))) h
 simp only [seval,EMB,ag_24,sz_24,ag_54,sz_54,eInt]
 refine SpecS.by (ip_right_spec hy1) (by simp only [seval,FMB,eInt]) ?_
 simp only [seval,EMB,eInt]
 refine mU e (.cond rfl (fun hb3=>?_) (fun hb3=>?_)) h
 refine .sR fun e h=>?_
 simp only [seval,EMB]
 refine mU e (.ret fun e h=>?_) h
 cases h
 simp only [seval,FMB,Tryz.results37]
 refine .skip (Mir.toK (.sR fun e h=>?_))
 simp only [seval,EMB,fld_24_0,sz_2,ag_2,fld_24_1,fld_24_2,fld_54_1,sz_24,und_93,zero_2,(oL 6),eInt]
 refine mU e (.seqK (.seqK (.bind fun y2 hy4=>.region fun e h=>?_))) h
 simp only [seval,EMB,ag_54,sz_54,eInt]
 refine SpecS.by (ip_isArc_spec hy4) (by simp only [seval,FMB,eInt]) ?_
 simp only [seval,EMB,eInt]
 refine mU e (Mir.join (fun v2 : (List Int)=>([U,U,U,U,U,.d (.list (List.map (eInt .i64) v2))] ++ us 85)) (fun v2=>⟨[[.d (.int .i64 a0.X),.d (.int .i64 a0.Y),.d (.int .i64 a0.Z)],[.d (.int .i64 a1.Kind),.d (.int .i64 a1.To.X),.d (.int .i64 a1.To.Y),.d (.int .i64 a1.To.Z),.d (.int .i64 a1.Center.X),.d (.int .i64 a1.Center.Y),.d (.int .i64 a1.Rate)]],[]⟩) (fun _=>rfl) ?_ ?_) h
 refine .cond rfl (fun hb13=>?_) (fun hb13=>?_)
 refine .seqK (.bind fun y3 hy14=>.region fun e h=>?_)
 simp only [seval,EMB,ag_24,sz_24,fld_54_2,sz_52,ag_52,eInt]
 refine SpecS.by (ip_point_spec hy14) (by simp only [seval,FMB,eInt]) ?_
 simp only [seval,EMB,eInt]
 refine mU e (.seqK (.seqK (Mir.joinO (fun v1 : Bool=>([U,U,U,.ptr 1 0,U,.full (List.map (eInt .i64) [a0.X,a0.Y,a0.Z,a1.To.X,a1.To.Y,a1.To.Z]),U,.d (.int .u64 y3.2),U,U,U,U,U,U,U,U,U,U,U,U,U,U,U,U,U,U,U,U,U,U,U,U,U,U,U,U,U,U,U,U,U,U,U,U,U,U,U,U,U,U,U,U,U,U,U,.d (.bool v1)] ++ us 35)) (fun v1=>⟨[[.d (.int .i64 a0.X),.d (.int .i64 a0.Y),.d (.int .i64 a0.Z)],[.d (.int .i64 a1.Kind),.d (.int .i64 a1.To.X),.d (.int .i64 a1.To.Y),.d (.int .i64 a1.To.Z),.d (.int .i64 a1.Center.X),.d (.int .i64 a1.Center.Y),.d (.int .i64 a1.Rate)]],[]⟩) (fun _=>rfl) ?_ ?_))) h
 refine .ite (fun hb15=>?_) (fun hb15=>?_)
 refine .region fun e h=>?_
 simp only [seval,EMB,eInt,hb15]
 cases h
 simp only [seval,FMB,eInt,hb15]
 refine .bind fun y4 hy16=>.ite (fun hb17=>?_) (fun hb17=>?_)
 refine .region fun e h=>?_
 simp only [seval,EMB,fld_54_2,sz_52,fld_52_0,sz_2,ag_2,eInt,hb15,hb17]
 refine SpecS.by (ip_apart_spec hy16) (by simp only [seval,FMB,eInt,hb15,hb17]) ?_
 simp only [seval,EMB,eInt,hb15,hb17]
 cases h
 simp only [seval,FMB,eInt,hb15,hb17]
 refine .bind fun y5 hy18=>.region fun e h=>?_
 simp only [seval,EMB,fld_54_2,sz_52,fld_52_0,sz_2,ag_2,eInt,hb15,hb17]
 refine SpecS.by (ip_apart_spec hy16) (by simp only [seval,FMB,eInt,hb15,hb17]) ?_
 simp only [seval,EMB,fld_54_2,sz_52,fld_52_1,sz_2,ag_2,eInt,hb15,hb17]
 refine SpecS.by (ip_apart_spec hy18) (by simp only [seval,FMB,eInt,hb15,hb17]) ?_
 simp only [seval,EMB,eInt,hb15,hb17]
 cases h
 simp only [seval,FMB,eInt,hb15,hb17]
 intro v1
 refine Mir.toK (.cond rfl (fun hb20=>?_) (fun hb20=>?_))
 refine .sR fun e h=>?_
 simp only [seval,EMB,eInt]
 refine mU e (.ret fun e h=>?_) h
 cases h
 simp only [seval,FMB,eInt,Tryz.results37]
 refine .skip (Mir.toK (.sR fun e h=>?_))
 simp only [seval,EMB,und_125,und_2,eInt]
 refine mU e (.region fun e h=>?_) h
 simp only [seval,EMB,fld_54_2,sz_52,fld_52_0,sz_2,ag_2,fld_52_1,und_93,zero_2,(oL 4),app_93,al_eInt,(oL 10),eInt]
 cases h
 simp only [seval,FMB,eInt,Tryz.results37]
 refine .skip fun e h=>?_
 cases h
 simp only [seval,FMB,eInt,Tryz.results37]
 intro v2
 refine Mir.toK (.seqK (.sR fun e h=>?_))
 simp only [seval,EMB,und_93,eInt]
 refine mU e (Mir.join (fun v4 : Unit=>(us 91)) (fun v4=>⟨[[.d (.int .i64 a0.X),.d (.int .i64 a0.Y),.d (.int .i64 a0.Z)],[.d (.int .i64 a1.Kind),.d (.int .i64 a1.To.X),.d (.int .i64 a1.To.Y),.d (.int .i64 a1.To.Z),.d (.int .i64 a1.Center.X),.d (.int .i64 a1.Center.Y),.d (.int .i64 a1.Rate)]],[]⟩) (fun _=>rfl) ?_ ?_) h
 refine .block (.guard fun qg85=>Mir.range (fun (i1 : Nat) (v3 : Unit)=>([U,U,U,U,U,U,U,U,U,U,U,U,U,U,U,U,U,U,U,U,U,U,U,U,U,U,U,U,U,U,U,U,U,U,U,U,U,U,U,U,U,U,U,U,U,U,U,U,U,U,U,U,U,U,U,U,U,U,U,U,U,U,U,U,U,U,U,U,U,U,U,U,U,U,U,U,U,U,U,U,U,.d (.list (List.map (eInt .i64) v2)),.d (.int .i64 (v2.length : Int)),.d (.int .i64 (i1 : Int))] ++ us 7)) (fun i1 v3=>⟨[[.d (.int .i64 a0.X),.d (.int .i64 a0.Y),.d (.int .i64 a0.Z)],[.d (.int .i64 a1.Kind),.d (.int .i64 a1.To.X),.d (.int .i64 a1.To.Y),.d (.int .i64 a1.To.Z),.d (.int .i64 a1.Center.X),.d (.int .i64 a1.Center.Y),.d (.int .i64 a1.Rate)]],[]⟩) qg85 (fun _ _=>rfl) (by simp only [seval,FMB,eInt,zNI]) (by simp only [seval,FMB,eInt,zNI]) ?_ ?_)
 intro i1 e1 v3 qr83
 refine .sR fun e h=>?_
 simp only [seval,EMB,qr83,eInt]
 refine mU e (.seqK (.condT rfl (.skip (Mir.toK (.seqK (.block (.sR fun e h=>?_))))))) h
 simp only [seval,EMB,und_93,sz_2,qr83,Int.toNat_natCast,ag_2,eInt]
 refine mU e (.seqK (.bind fun y6 hy88=>.region fun e h=>?_)) h
 simp only [seval,EMB,eInt]
 refine SpecS.by (ip_apart_spec hy88) (by simp only [seval,FMB,eInt]) ?_
 simp only [seval,EMB,eInt]
 refine mU e (.cond rfl (fun hb90=>?_) (fun hb90=>?_)) h
 refine .sR fun e h=>?_
 simp only [seval,EMB,eInt]
 refine mU e (.ret fun e h=>?_) h
 cases h
 simp only [seval,FMB,eInt,Tryz.results37]
 refine .skip (Mir.toB (Mir.toK (.region fun e h=>?_)))
 simp only [seval,EMB,eInt]
 cases h
 simp only [seval,FMB,eInt,Tryz.results37,qr83]
 intro v3 qd84
 refine .sR fun e h=>?_
 simp only [seval,EMB,qd84,eInt]
 refine mU e (.seqK (.condF rfl (.exit fun e h=>?_))) h
 cases h
 simp only [seval,FMB,eInt,Tryz.results37]
 intro v4
 refine Mir.toK (.sR fun e h=>?_)
 simp only [seval,EMB,eInt]
 refine mU e (.ret fun e h=>?_) h
 cases h
 simp only [seval,FMB,eInt,Tryz.results37]
def po_word (a0 : Int) (a1 : Int) : Option ApiWord := some (ApiWord.mk a0 a1)
theorem po_word_spec {a0 : Int} {a1 : Int} {y : ApiWord} (h : po_word a0 a1 = some y) : Spec gP 40 [.d (.int .u8 a0),.d (.int .i64 a1)] (.agg [.d (.int .u8 y.Letter),.d (.int .i64 y.Value)]) := by
 refine spec_mir Tryz.func40 rfl (by kernel_rfl) (by kernel_rfl) (fun y : ApiWord=>.agg [.d (.int .u8 y.Letter),.d (.int .i64 y.Value)]) ?_ h
 unfold po_word
 simp only [List.replicate,List.length,nS,nA,Tryz.ntmps40,SV]
 refine .sR fun e h=>?_
 simp only [seval,EMB,zero_83]
 refine mU e (.sR fun e h=>?_) h
 simp only [seval,EMB,zero_83,pl_83,sz_83]
 refine mU e (.ret fun e h=>?_) h
 cases h
 simp only [seval,FMB,Tryz.results40,ag_83,sz_83]
def po_whole (a0 : Int) (a1 : Int) : Option ApiWord := bindO (po_word a0 (IntKind.i64.wrap (1000 * a1))) fun (y1 : ApiWord)=>some y1
theorem po_whole_spec {a0 : Int} {a1 : Int} {y : ApiWord} (h : po_whole a0 a1 = some y) : Spec gP 39 [.d (.int .u8 a0),.d (.int .i64 a1)] (.agg [.d (.int .u8 y.Letter),.d (.int .i64 y.Value)]) := by
 refine spec_mir Tryz.func39 rfl (by kernel_rfl) (by kernel_rfl) (fun y : ApiWord=>.agg [.d (.int .u8 y.Letter),.d (.int .i64 y.Value)]) ?_ h
 unfold po_whole
 simp only [List.replicate,List.length,nS,nA,Tryz.ntmps39,SV]
 refine .sR fun e h=>?_
 simp only [seval,EMB,zero_83]
 refine mU e (.seqK (.bind fun y1 hy1=>.region fun e h=>?_)) h
 simp only [seval,EMB]
 refine SpecS.by (po_word_spec hy1) (by simp only [seval,FMB]) ?_
 simp only [seval,EMB,sz_83]
 refine mU e (.ret fun e h=>?_) h
 cases h
 simp only [seval,FMB,Tryz.results39,ag_83,sz_83]
def po_words (a0 : (List ApiWord)) : Option ApiBlock := some (ApiBlock.mk false a0 [])
theorem po_words_specF {a0 : (List ApiWord)} {y : ApiBlock} (h : po_words a0 = some y) : Spec gP 38 [.full (List.map encApiWord a0)] (.agg [.d (.bool y.Skip),.full (List.map encApiWord y.Words),.d (.str y.Comment)]) := by
 refine specF_mir Tryz.func38 rfl (by kernel_rfl) (by kernel_rfl) (fun y : ApiBlock=>.agg [.d (.bool y.Skip),.full (List.map encApiWord y.Words),.d (.str y.Comment)]) ?_ h
 unfold po_words
 simp only [List.replicate,List.length,nS,nA,Tryz.ntmps38,SV]
 refine .sR fun e h=>?_
 simp only [seval,EMB,zero_48]
 refine mU e (.sR fun e h=>?_) h
 simp only [seval,EMB,zero_48,pl_48,sz_48]
 refine mU e (.ret fun e h=>?_) h
 cases h
 simp only [seval,FMB,Tryz.results38,ag_48,sz_48]
def po_Move (a0 : ApiPos) (a1 : ApiMove) : Option (ApiBlock × Int) := bindO (ip_Valid (ApiPos.mk a0.X a0.Y a0.Z) (ApiMove.mk a1.Kind a1.To a1.Center a1.Rate)) fun (y1 : Int)=>if (y1 != 0) = true then some (ApiBlock.mk false [] [],y1) else if (decide (a1.Rate > 1000000000000)) = true then some (ApiBlock.mk false [] [],11) else bindO (guardO (decide (0 ≤ a1.Kind ∧ a1.Kind < 5)) ( if (a1.Kind == 0) = true then bindO (po_whole 71 0) fun (y2 : ApiWord)=>bindO (po_word 88 a1.To.X) fun (y3 : ApiWord)=>bindO (po_word 89 a1.To.Y) fun (y4 : ApiWord)=>bindO (po_word 90 a1.To.Z) fun (y5 : ApiWord)=>bindO (po_words [y2,y3,y4,y5]) fun (y6 : ApiBlock)=>some (y6.Skip,y6.Words,y6.Comment) else if (a1.Kind == 1) = true then bindO (po_whole 71 0) fun (y7 : ApiWord)=>bindO (po_word 88 a1.To.X) fun (y8 : ApiWord)=>bindO (po_word 89 a1.To.Y) fun (y9 : ApiWord)=>bindO (po_word 90 a1.To.Z) fun (y10 : ApiWord)=>bindO (po_words [y7,y8,y9,y10]) fun (y11 : ApiBlock)=>some (y11.Skip,y11.Words,y11.Comment) else if (a1.Kind == 2) = true then bindO (po_whole 71 1) fun (y12 : ApiWord)=>bindO (po_word 88 a1.To.X) fun (y13 : ApiWord)=>bindO (po_word 89 a1.To.Y) fun (y14 : ApiWord)=>bindO (po_word 90 a1.To.Z) fun (y15 : ApiWord)=>bindO (po_words [y12,y13,y14,y15]) fun (y16 : ApiBlock)=>some (y16.Skip,y16.Words,y16.Comment) else if (a1.Kind == 3) = true then bindO (po_whole 71 2) fun (y17 : ApiWord)=>bindO (po_word 88 a1.To.X) fun (y18 : ApiWord)=>bindO (po_word 89 a1.To.Y) fun (y19 : ApiWord)=>bindO (po_word 90 a1.To.Z) fun (y20 : ApiWord)=>bindO (po_words [y17,y18,y19,y20]) fun (y21 : ApiBlock)=>some (y21.Skip,y21.Words,y21.Comment) else bindO (po_whole 71 3) fun (y22 : ApiWord)=>bindO (po_word 88 a1.To.X) fun (y23 : ApiWord)=>bindO (po_word 89 a1.To.Y) fun (y24 : ApiWord)=>bindO (po_word 90 a1.To.Z) fun (y25 : ApiWord)=>bindO (po_words [y22,y23,y24,y25]) fun (y26 : ApiBlock)=>some (y26.Skip,y26.Words,y26.Comment))) fun (v1 : Bool × (List ApiWord) × (List UInt8))=>if ((a1.Kind == 3) || (a1.Kind == 4)) = true then bindO (po_word 73 (IntKind.i64.wrap (a1.Center.X - a0.X))) fun (y27 : ApiWord)=>bindO (po_word 74 (IntKind.i64.wrap (a1.Center.Y - a0.Y))) fun (y28 : ApiWord)=>guardO (okLen (v1.2.1.length + 2)) ( if (a1.Kind != 1) = true then bindO (po_word 70 a1.Rate) fun (y29 : ApiWord)=>guardO (okLen (v1.2.1.length + 2 + 1)) ( some (ApiBlock.mk v1.1 (v1.2.1 ++ [y27,y28] ++ [y29]) v1.2.2,0)) else some (ApiBlock.mk v1.1 (v1.2.1 ++ [y27,y28]) v1.2.2,0)) else if (a1.Kind != 1) = true then bindO (po_word 70 a1.Rate) fun (y30 : ApiWord)=>guardO (okLen (v1.2.1.length + 1)) ( some (ApiBlock.mk v1.1 (v1.2.1 ++ [y30]) v1.2.2,0)) else some (ApiBlock.mk v1.1 v1.2.1 v1.2.2,0)
theorem po_Move_spec {a0 : ApiPos} {a1 : ApiMove} {y : ApiBlock × Int} (h : po_Move a0 a1 = some y) : Spec gP 12 [.agg [.d (.int .i64 a0.X),.d (.int .i64 a0.Y),.d (.int .i64 a0.Z)],.agg [.d (.int .i64 a1.Kind),.d (.int .i64 a1.To.X),.d (.int .i64 a1.To.Y),.d (.int .i64 a1.To.Z),.d (.int .i64 a1.Center.X),.d (.int .i64 a1.Center.Y),.d (.int .i64 a1.Rate)]] (.tuple [.agg [.d (.bool y.1.Skip),.d (.list (List.map encApiWord y.1.Words)),.d (.str y.1.Comment)],.d (.int .i64 y.2)]) := by
 refine spec_mir Tryz.func12 rfl (by kernel_rfl) (by kernel_rfl) (fun y : ApiBlock × Int=>.tuple [.agg [.d (.bool y.1.Skip),.d (.list (List.map encApiWord y.1.Words)),.d (.str y.1.Comment)],.d (.int .i64 y.2)]) ?_ h
 unfold po_Move
 simp only [List.replicate,List.length,nS,nA,Tryz.ntmps12,SV]
 refine .sR fun e h=>?_
 simp only [seval,EMB,zero_48]
 refine mU e (.seqK (.seqK (.bind fun y1 hy1=>.region fun e h=>?_))) h
 simp only [seval,EMB,ag_24,sz_24,ag_54,sz_54]
 refine SpecS.by (ip_Valid_spec hy1) (by simp only [seval,FMB]) ?_
 simp only [seval,EMB]
 refine mU e (.sR fun e h=>?_) h
 simp only [seval,EMB]
 refine mU e (.cond rfl (fun hb2=>?_) (fun hb2=>?_)) h
 refine .sR fun e h=>?_
 simp only [seval,EMB,zero_48,pl_48,sz_48]
 refine mU e (.ret fun e h=>?_) h
 cases h
 simp only [seval,FMB,Tryz.results12,ag_48,sz_48]
 refine .skip (Mir.toK (.seqK (.sR fun e h=>?_)))
 simp only [seval,EMB,fld_54_3,sz_2,ag_2]
 refine mU e (.cond rfl (fun hb3=>?_) (fun hb3=>?_)) h
 refine .sR fun e h=>?_
 simp only [seval,EMB,zero_48,pl_48,sz_48]
 refine mU e (.ret fun e h=>?_) h
 cases h
 simp only [seval,FMB,Tryz.results12,ag_48,sz_48]
 refine .skip (Mir.toK (.seqK (Mir.joinO (fun v1 : Bool × (List ApiWord) × (List UInt8)=>([U,U,.ptr 0 0,.ptr 1 0,.ptr 2 0,U,U,.ptr 3 0] ++ us 69)) (fun v1=>⟨[[.d (.int .i64 a0.X),.d (.int .i64 a0.Y),.d (.int .i64 a0.Z)],[.d (.int .i64 a1.Kind),.d (.int .i64 a1.To.X),.d (.int .i64 a1.To.Y),.d (.int .i64 a1.To.Z),.d (.int .i64 a1.Center.X),.d (.int .i64 a1.Center.Y),.d (.int .i64 a1.Rate)],[.d (.bool false),.nil,.d (.str [])],[.d (.bool v1.1),.full (List.map encApiWord v1.2.1),.d (.str v1.2.2)]],[]⟩) (fun _=>rfl) ?_ ?_)))
 refine .guard fun qi4=>.ite (fun hb5=>?_) (fun hb5=>?_)
 refine .bind fun y2 hy6=>.bind fun y3 hy7=>.bind fun y4 hy8=>.bind fun y5 hy9=>.bind fun y6 hy10=>.regionD [] (by kernel_rfl) fun e h=>?_
 simp only [seval,EMB,SB,fld_54_0,sz_3,ag_3,und_90,(eq_of_beq hb5),sz_2,ag_2,glT,hb5]
 refine Spec.by (po_whole_spec hy6) (by simp only [seval,FMB,hb5]) ?_
 simp only [seval,EMB,SB,fld_54_1,sz_24,fld_24_0,sz_2,ag_2,hb5]
 refine Spec.by (po_word_spec hy7) (by simp only [seval,FMB,hb5]) ?_
 simp only [seval,EMB,SB,fld_54_1,sz_24,fld_24_1,sz_2,ag_2,hb5]
 refine Spec.by (po_word_spec hy8) (by simp only [seval,FMB,hb5]) ?_
 simp only [seval,EMB,SB,fld_54_1,sz_24,fld_24_2,sz_2,ag_2,hb5]
 refine Spec.by (po_word_spec hy9) (by simp only [seval,FMB,hb5]) ?_
 simp only [seval,EMB,SB,und_46,sz_83,zero_83,(oL 8),hb5]
 refine Spec.byF (po_words_specF hy10) (by simp only [seval,FMB,hb5]) ?_
 simp only [seval,EMB,SB,zero_48,sz_48,hb5]
 cases h
 simp only [seval,FMB,hb5]
 refine .ite (fun hb11=>?_) (fun hb11=>?_)
 refine .bind fun y7 hy12=>.bind fun y8 hy13=>.bind fun y9 hy14=>.bind fun y10 hy15=>.bind fun y11 hy16=>.regionD [] (by kernel_rfl) fun e h=>?_
 simp only [seval,EMB,SB,fld_54_0,sz_3,ag_3,und_90,(eq_of_beq hb11),sz_2,ag_2,glT,hb5,hb11]
 refine Spec.by (po_whole_spec hy12) (by simp only [seval,FMB,hb5,hb11]) ?_
 simp only [seval,EMB,SB,fld_54_1,sz_24,fld_24_0,sz_2,ag_2,hb5,hb11]
 refine Spec.by (po_word_spec hy13) (by simp only [seval,FMB,hb5,hb11]) ?_
 simp only [seval,EMB,SB,fld_54_1,sz_24,fld_24_1,sz_2,ag_2,hb5,hb11]
 refine Spec.by (po_word_spec hy14) (by simp only [seval,FMB,hb5,hb11]) ?_
 simp only [seval,EMB,SB,fld_54_1,sz_24,fld_24_2,sz_2,ag_2,hb5,hb11]
 refine Spec.by (po_word_spec hy15) (by simp only [seval,FMB,hb5,hb11]) ?_
 simp only [seval,EMB,SB,und_46,sz_83,zero_83,(oL 8),hb5,hb11]
 refine Spec.byF (po_words_specF hy16) (by simp only [seval,FMB,hb5,hb11]) ?_
 simp only [seval,EMB,SB,zero_48,sz_48,hb5,hb11]
 cases h
 simp only [seval,FMB,hb5,hb11]
 refine .ite (fun hb17=>?_) (fun hb17=>?_)
 refine .bind fun y12 hy18=>.bind fun y13 hy19=>.bind fun y14 hy20=>.bind fun y15 hy21=>.bind fun y16 hy22=>.regionD [] (by kernel_rfl) fun e h=>?_
 simp only [seval,EMB,SB,fld_54_0,sz_3,ag_3,und_90,(eq_of_beq hb17),sz_2,ag_2,glT,hb5,hb11,hb17]
 refine Spec.by (po_whole_spec hy18) (by simp only [seval,FMB,hb5,hb11,hb17]) ?_
 simp only [seval,EMB,SB,fld_54_1,sz_24,fld_24_0,sz_2,ag_2,hb5,hb11,hb17]
 refine Spec.by (po_word_spec hy19) (by simp only [seval,FMB,hb5,hb11,hb17]) ?_
 simp only [seval,EMB,SB,fld_54_1,sz_24,fld_24_1,sz_2,ag_2,hb5,hb11,hb17]
 refine Spec.by (po_word_spec hy20) (by simp only [seval,FMB,hb5,hb11,hb17]) ?_
 simp only [seval,EMB,SB,fld_54_1,sz_24,fld_24_2,sz_2,ag_2,hb5,hb11,hb17]
 refine Spec.by (po_word_spec hy21) (by simp only [seval,FMB,hb5,hb11,hb17]) ?_
 simp only [seval,EMB,SB,und_46,sz_83,zero_83,(oL 8),hb5,hb11,hb17]
 refine Spec.byF (po_words_specF hy22) (by simp only [seval,FMB,hb5,hb11,hb17]) ?_
 simp only [seval,EMB,SB,zero_48,sz_48,hb5,hb11,hb17]
 cases h
 simp only [seval,FMB,hb5,hb11,hb17]
 refine .ite (fun hb23=>?_) (fun hb23=>?_)
 refine .bind fun y17 hy24=>.bind fun y18 hy25=>.bind fun y19 hy26=>.bind fun y20 hy27=>.bind fun y21 hy28=>.regionD [] (by kernel_rfl) fun e h=>?_
 simp only [seval,EMB,SB,fld_54_0,sz_3,ag_3,und_90,(eq_of_beq hb23),sz_2,ag_2,glT,hb5,hb11,hb17,hb23]
 refine Spec.by (po_whole_spec hy24) (by simp only [seval,FMB,hb5,hb11,hb17,hb23]) ?_
 simp only [seval,EMB,SB,fld_54_1,sz_24,fld_24_0,sz_2,ag_2,hb5,hb11,hb17,hb23]
 refine Spec.by (po_word_spec hy25) (by simp only [seval,FMB,hb5,hb11,hb17,hb23]) ?_
 simp only [seval,EMB,SB,fld_54_1,sz_24,fld_24_1,sz_2,ag_2,hb5,hb11,hb17,hb23]
 refine Spec.by (po_word_spec hy26) (by simp only [seval,FMB,hb5,hb11,hb17,hb23]) ?_
 simp only [seval,EMB,SB,fld_54_1,sz_24,fld_24_2,sz_2,ag_2,hb5,hb11,hb17,hb23]
 refine Spec.by (po_word_spec hy27) (by simp only [seval,FMB,hb5,hb11,hb17,hb23]) ?_
 simp only [seval,EMB,SB,und_46,sz_83,zero_83,(oL 8),hb5,hb11,hb17,hb23]
 refine Spec.byF (po_words_specF hy28) (by simp only [seval,FMB,hb5,hb11,hb17,hb23]) ?_
 simp only [seval,EMB,SB,zero_48,sz_48,hb5,hb11,hb17,hb23]
 cases h
 simp only [seval,FMB,hb5,hb11,hb17,hb23]
 have hz29 : a1.Kind = 4 := by have h0 := of_decide_eq_true qi4; have h1 := ne_of_beq_false hb5; have h2 := ne_of_beq_false hb11; have h3 := ne_of_beq_false hb17; have h4 := ne_of_beq_false hb23; omega
 refine .bind fun y22 hy30=>.bind fun y23 hy31=>.bind fun y24 hy32=>.bind fun y25 hy33=>.bind fun y26 hy34=>.regionD [] (by kernel_rfl) fun e h=>?_
 simp only [seval,EMB,SB,fld_54_0,sz_3,ag_3,und_90,hz29,sz_2,ag_2,glT,hb5,hb11,hb17,hb23]
 refine Spec.by (po_whole_spec hy30) (by simp only [seval,FMB,hb5,hb11,hb17,hb23]) ?_
 simp only [seval,EMB,SB,fld_54_1,sz_24,fld_24_0,sz_2,ag_2,hb5,hb11,hb17,hb23]
 refine Spec.by (po_word_spec hy31) (by simp only [seval,FMB,hb5,hb11,hb17,hb23]) ?_
 simp only [seval,EMB,SB,fld_54_1,sz_24,fld_24_1,sz_2,ag_2,hb5,hb11,hb17,hb23]
 refine Spec.by (po_word_spec hy32) (by simp only [seval,FMB,hb5,hb11,hb17,hb23]) ?_
 simp only [seval,EMB,SB,fld_54_1,sz_24,fld_24_2,sz_2,ag_2,hb5,hb11,hb17,hb23]
 refine Spec.by (po_word_spec hy33) (by simp only [seval,FMB,hb5,hb11,hb17,hb23]) ?_
 simp only [seval,EMB,SB,und_46,sz_83,zero_83,(oL 8),hb5,hb11,hb17,hb23]
 refine Spec.byF (po_words_specF hy34) (by simp only [seval,FMB,hb5,hb11,hb17,hb23]) ?_
 simp only [seval,EMB,SB,zero_48,sz_48,hb5,hb11,hb17,hb23]
 cases h
 simp only [seval,FMB,hb5,hb11,hb17,hb23]
 intro v1
 refine Mir.toK (.seqK (.seqK (.joinV ([U,U,.ptr 0 0,.ptr 1 0,.ptr 2 0,U,U,.ptr 3 0,U,U,U,U,U,U,U,U,U,U,U,U,U,U,U,U,U,U,U,U,U,U,U,U,U,U,U,U,U,U,U,U,U,U,U,U,U,.d (.bool ((a1.Kind == 3) || (a1.Kind == 4)))] ++ us 31) ⟨[[.d (.int .i64 a0.X),.d (.int .i64 a0.Y),.d (.int .i64 a0.Z)],[.d (.int .i64 a1.Kind),.d (.int .i64 a1.To.X),.d (.int .i64 a1.To.Y),.d (.int .i64 a1.To.Z),.d (.int .i64 a1.Center.X),.d (.int .i64 a1.Center.Y),.d (.int .i64 a1.Rate)],[.d (.bool false),.nil,.d (.str [])],[.d (.bool v1.1),.full (List.map encApiWord v1.2.1),.d (.str v1.2.2)]],[]⟩ rfl ?_ ?_)))
 refine SWs.region ?_
 rcases Bool.eq_false_or_eq_true (a1.Kind == 3) with hb35 | hb35
 simp only [seval,EMB,SL,PB,fld_54_0,sz_3,ag_3,hb35]
 simp only [seval,EMB,SL,PB,fld_54_0,sz_3,ag_3,hb35]
 refine Mir.toK (.cond rfl (fun hb36=>?_) (fun hb36=>?_))
 refine .bind fun y27 hy37=>.bind fun y28 hy38=>.guard fun q39=>.regionD [] (by kernel_rfl) fun e h=>?_
 simp only [seval,EMB,SB,fld_48_1,sz_46,ag_46,fld_54_2,sz_52,fld_52_0,sz_2,ag_2,fld_24_0]
 refine Spec.by (po_word_spec hy37) (by simp only [seval,FMB]) ?_
 simp only [seval,EMB,SB,fld_54_2,sz_52,fld_52_1,sz_2,ag_2,fld_24_1]
 refine Spec.by (po_word_spec hy38) (by simp only [seval,FMB]) ?_
 simp only [seval,EMB,SB,und_46,sz_83,zero_83,(oL 4),app_46,al_ApiWord,q39,fld_48_1,sz_46]
 refine mU e (.seqK (.sR fun e h=>?_)) h
 simp only [seval,EMB,fld_54_0,sz_3,ag_3]
 refine mU e (.cond rfl (fun hb40=>?_) (fun hb40=>?_)) h
 refine .bind fun y29 hy41=>.guard fun q42=>.regionD [] (by kernel_rfl) fun e h=>?_
 simp only [seval,EMB,SB,fld_48_1,sz_46,ag_46,fld_54_3,sz_2,ag_2]
 refine Spec.by (po_word_spec hy41) (by simp only [seval,FMB]) ?_
 simp only [seval,EMB,SB,und_46,sz_83,zero_83,(oL 2),app_46,al_ApiWord,xLA,q42,fld_48_1,sz_46]
 refine mU e (.sR fun e h=>?_) h
 simp only [seval,EMB,ag_48,sz_48]
 refine mU e (.ret fun e h=>?_) h
 cases h
 simp only [seval,FMB,Tryz.results12,ag_48,sz_48]
 refine .skip (Mir.toK (.sR fun e h=>?_))
 simp only [seval,EMB,ag_48,sz_48]
 refine mU e (.ret fun e h=>?_) h
 cases h
 simp only [seval,FMB,Tryz.results12,ag_48,sz_48]
 refine .skip (Mir.toK (.seqK (.sR fun e h=>?_)))
 simp only [seval,EMB,fld_54_0,sz_3,ag_3]
 refine mU e (.cond rfl (fun hb43=>?_) (fun hb43=>?_)) h
 refine .bind fun y30 hy44=>.guard fun q45=>.regionD [] (by kernel_rfl) fun e h=>?_
 simp only [seval,EMB,SB,fld_48_1,sz_46,ag_46,fld_54_3,sz_2,ag_2]
 refine Spec.by (po_word_spec hy44) (by simp only [seval,FMB]) ?_
 simp only [seval,EMB,SB,und_46,sz_83,zero_83,(oL 2),app_46,al_ApiWord,q45,fld_48_1,sz_46]
 refine mU e (.sR fun e h=>?_) h
 simp only [seval,EMB,ag_48,sz_48]
 refine mU e (.ret fun e h=>?_) h
 cases h
 simp only [seval,FMB,Tryz.results12,ag_48,sz_48]
 refine .skip (Mir.toK (.sR fun e h=>?_))
 simp only [seval,EMB,ag_48,sz_48]
 refine mU e (.ret fun e h=>?_) h
 cases h
 simp only [seval,FMB,Tryz.results12,ag_48,sz_48]
def api_Errno_String (a0 : Int) : Option (List UInt8) := bindO (strconv_Itoa a0) fun (y1 : (List UInt8))=>guardO (okStr [101,114,114,110,111,32] y1) ( some ([101,114,114,110,111,32] ++ y1))
theorem api_Errno_String_spec {a0 : Int} {y : (List UInt8)} (h : api_Errno_String a0 = some y) : Spec gP 35 [.d (.int .i64 a0)] (.d (.str y)) := by
 refine spec_mir Tryz.func35 rfl (by kernel_rfl) (by kernel_rfl) (fun y : (List UInt8)=>.d (.str y)) ?_ h
 unfold api_Errno_String
 simp only [List.replicate,List.length,nS,nA,Tryz.ntmps35,SV]
 refine .sR fun e h=>?_
 simp only [seval,EMB]
 refine mU e (.seqK (.bind fun y1 hy1=>.guard fun q2=>?_)) h
 replace q2 := okStr_ok q2
 try simp only [lm,xNA,xCA,xAN,xLC,xLN,xAC,xAL,nA,Nat.zero_add] at q2
 refine .region fun e h=>?_
 simp only [seval,EMB]
 refine SpecS.by (strconv_Itoa_spec hy1) (by simp only [seval,FMB]) ?_
 simp only [seval,EMB,q2]
 refine mU e (.ret fun e h=>?_) h
 cases h
 simp only [seval,FMB,Tryz.results35]
def r41_printable (a0 : Int) : Option Bool := some ((decide (a0 ≥ 32)) && ((decide (a0 ≤ 126)) && ((a0 != 40) && (a0 != 41))))
theorem r41_printable_spec {a0 : Int} {y : Bool} (h : r41_printable a0 = some y) : Spec gP 84 [.d (.int .u8 a0)] (.d (.bool y)) := by
 refine spec_mir Tryz.func84 rfl (by kernel_rfl) (by kernel_rfl) (fun y : Bool=>.d (.bool y)) ?_ h
 unfold r41_printable
 simp only [List.replicate,List.length,nS,nA,Tryz.ntmps84,SV]
 refine .sR fun e h=>?_
 simp only [seval,EMB]
 refine mU e (.seqK (.joinV ([U,U,.d (.bool ((decide (a0 ≥ 32)) && ((decide (a0 ≤ 126)) && ((a0 != 40) && (a0 != 41)))))] ++ us 14) ⟨[],[]⟩ rfl ?_ ?_)) h
 refine SWs.region ?_
 rcases Bool.eq_false_or_eq_true (decide (a0 ≥ 32)) with hb1 | hb1
 rcases Bool.eq_false_or_eq_true (decide (a0 ≤ 126)) with hb2 | hb2
 rcases Bool.eq_false_or_eq_true (a0 != 40) with hb3 | hb3
 simp only [seval,EMB,SL,PB,hb1,hb2,hb3]
 simp only [seval,EMB,SL,PB,hb1,hb2,hb3]
 simp only [seval,EMB,SL,PB,hb1,hb2]
 simp only [seval,EMB,SL,PB,hb1]
 refine Mir.toK (.ret fun e h=>?_)
 cases h
 simp only [seval,FMB,Tryz.results84]
def r41_Valid (a0 : ApiBlock) : Option Int := if ((decide ((a0.Words.length : Int) > 16)) || (decide ((a0.Comment.length : Int) > 100))) = true then some 1 else bindX (guardO (okIdx a0.Words) ( rangeX (fun (i1 : Nat) (e1 : ApiWord) (v1 : Unit)=>if ((decide (e1.Letter < 65)) || ((decide (e1.Letter > 90)) || ((decide (e1.Value > 1000000000000)) || (decide (e1.Value < (-1000000000000)))))) = true then some (.ret (.ret 1)) else some (.go ())) (fun (v1 : Unit)=>some (.go ())) a0.Words 0 ())) fun (v2 : Unit)=>bindX (guardO (okIdx a0.Comment) ( rangeX (fun (i2 : Nat) (c1 : UInt8) (v3 : Unit)=>bindO (r41_printable (c1.toNat : Int)) fun (y1 : Bool)=>if (!y1) = true then some (.ret (.ret 1)) else some (.go ())) (fun (v3 : Unit)=>some (.go ())) a0.Comment 0 ())) fun (v4 : Unit)=>some 0
theorem r41_Valid_spec {a0 : ApiBlock} {y : Int} (h : r41_Valid a0 = some y) : Spec gP 63 [.agg [.d (.bool a0.Skip),.d (.list (List.map encApiWord a0.Words)),.d (.str a0.Comment)]] (.d (.int .i64 y)) := by
 refine spec_mir Tryz.func63 rfl (by kernel_rfl) (by kernel_rfl) (fun y : Int=>.d (.int .i64 y)) ?_ h
 unfold r41_Valid
 simp only [List.replicate,List.length,nS,nA,Tryz.ntmps63,SV]
 refine .sR fun e h=>?_
 simp only [seval,EMB]
 refine mU e (.seqK (.seqK (.joinV ([U,.ptr 0 0,U,U,U,U,U,U,U,U,U,U,U,U,U,.d (.bool ((decide ((a0.Words.length : Int) > 16)) || (decide ((a0.Comment.length : Int) > 100))))] ++ us 43) ⟨[[.d (.bool a0.Skip),.d (.list (List.map encApiWord a0.Words)),.d (.str a0.Comment)]],[]⟩ rfl ?_ ?_))) h
 refine SWs.region ?_
 rcases Bool.eq_false_or_eq_true (decide ((a0.Words.length : Int) > 16)) with hb1 | hb1
 simp only [seval,EMB,SL,PB,fld_48_1,sz_46,ag_46,und_46,hb1]
 simp only [seval,EMB,SL,PB,fld_48_1,sz_46,ag_46,und_46,fld_48_2,sz_9,ag_9,und_9,hb1]
 refine Mir.toK (.cond rfl (fun hb3=>?_) (fun hb3=>?_))
 refine .sR fun e h=>?_
 simp only [seval,EMB]
 refine mU e (.ret fun e h=>?_) h
 cases h
 simp only [seval,FMB,Tryz.results63]
 refine .skip (Mir.toK (.seqK (.sR fun e h=>?_)))
 simp only [seval,EMB]
 refine mU e (Mir.join (fun v2 : Unit=>([U,.ptr 0 0] ++ us 57)) (fun v2=>⟨[[.d (.bool a0.Skip),.d (.list (List.map encApiWord a0.Words)),.d (.str a0.Comment)]],[]⟩) (fun _=>rfl) ?_ ?_) h
 refine .block (.guard fun qg96=>Mir.range (fun (i1 : Nat) (v1 : Unit)=>([U,.ptr 0 0,U,.d (.int .i64 (i1 : Int))] ++ us 55)) (fun i1 v1=>⟨[[.d (.bool a0.Skip),.d (.list (List.map encApiWord a0.Words)),.d (.str a0.Comment)]],[]⟩) qg96 (fun _ _=>rfl) (by simp only [seval,FMB,zNI]) (by simp only [seval,FMB,zNI]) ?_ ?_)
 intro i1 e1 v1 qr94
 refine .seqK (.sR fun e h=>?_)
 simp only [seval,EMB,fld_48_1,sz_46,ag_46,und_46,qr94]
 refine mU e (.condT rfl (.skip (Mir.toK (.seqK (.block (.sR fun e h=>?_)))))) h
 simp only [seval,EMB,fld_48_1,sz_46,ag_46,und_46,sz_83,qr94,Int.toNat_natCast,ag_83,zero_83]
 refine mU e (.seqK (.joinV ([U,.ptr 0 0,U,.d (.int .i64 (i1 : Int)),U,U,U,U,U,U,U,U,U,U,U,U,U,U,U,U,U,U,U,U,U,U,U,U,U,U,U,U,U,U,U,U,U,U,U,U,U,U,U,U,U,.d (.bool ((decide (e1.Letter < 65)) || ((decide (e1.Letter > 90)) || ((decide (e1.Value > 1000000000000)) || (decide (e1.Value < (-1000000000000)))))))] ++ us 13) ⟨[[.d (.bool a0.Skip),.d (.list (List.map encApiWord a0.Words)),.d (.str a0.Comment)],[.d (.int .u8 e1.Letter),.d (.int .i64 e1.Value)]],[]⟩ rfl ?_ ?_)) h
 refine SWs.region ?_
 rcases Bool.eq_false_or_eq_true (decide (e1.Letter < 65)) with h1 | h1
 simp only [seval,EMB,SL,PB,fld_83_0,sz_5,ag_5,h1]
 rcases Bool.eq_false_or_eq_true (decide (e1.Letter > 90)) with h2 | h2
 simp only [seval,EMB,SL,PB,fld_83_0,sz_5,ag_5,h1,h2]
 rcases Bool.eq_false_or_eq_true (decide (e1.Value > 1000000000000)) with h3 | h3
 simp only [seval,EMB,SL,PB,fld_83_0,sz_5,ag_5,fld_83_1,sz_2,ag_2,h1,h2,h3]
 simp only [seval,EMB,SL,PB,fld_83_0,sz_5,ag_5,fld_83_1,sz_2,ag_2,h1,h2,h3]
 refine Mir.toK (.cond rfl (fun h4=>?_) (fun h4=>?_))
 refine .sR fun e h=>?_
 simp only [seval,EMB]
 refine mU e (.ret fun e h=>?_) h
 cases h
 simp only [seval,FMB,Tryz.results63]
 refine .skip (Mir.toB (Mir.toK (.region fun e h=>?_)))
 simp only [seval,EMB]
 cases h
 simp only [seval,FMB,Tryz.results63,qr94]
 intro v1 qd95
 refine .seqK (.sR fun e h=>?_)
 simp only [seval,EMB,fld_48_1,sz_46,ag_46,und_46,qd95]
 refine mU e (.condF rfl (.exit fun e h=>?_)) h
 cases h
 simp only [seval,FMB,Tryz.results63]
 intro v2
 refine Mir.toK (.seqK (.sR fun e h=>?_))
 simp only [seval,EMB]
 refine mU e (Mir.join (fun v4 : Unit=>(us 59)) (fun v4=>⟨[[.d (.bool a0.Skip),.d (.list (List.map encApiWord a0.Words)),.d (.str a0.Comment)]],[]⟩) (fun _=>rfl) ?_ ?_) h
 refine .block (.guard fun q1=>Mir.range (fun (i2 : Nat) (v3 : Unit)=>([U,.ptr 0 0,U,U,U,.d (.int .i64 (i2 : Int))] ++ us 53)) (fun i2 v3=>⟨[[.d (.bool a0.Skip),.d (.list (List.map encApiWord a0.Words)),.d (.str a0.Comment)]],[]⟩) q1 (fun _ _=>rfl) (by simp only [seval,FMB,zNI]) (by simp only [seval,FMB,zNI]) ?_ ?_)
 intro i2 c1 v3 q2
 refine .seqK (.sR fun e h=>?_)
 simp only [seval,EMB,fld_48_2,sz_9,ag_9,und_9,q2]
 refine mU e (.condT rfl (.skip (Mir.toK (.seqK (.block (.seqK (.bind fun y1 h5=>.region fun e h=>?_))))))) h
 simp only [seval,EMB,fld_48_2,sz_9,ag_9,und_9,Int.toNat_natCast,q2]
 refine SpecS.by (r41_printable_spec h5) (by simp only [seval,FMB]) ?_
 simp only [seval,EMB]
 refine mU e (.cond rfl (fun h6=>?_) (fun h6=>?_)) h
 refine .sR fun e h=>?_
 simp only [seval,EMB]
 refine mU e (.ret fun e h=>?_) h
 cases h
 simp only [seval,FMB,Tryz.results63]
 refine .skip (Mir.toB (Mir.toK (.region fun e h=>?_)))
 simp only [seval,EMB]
 cases h
 simp only [seval,FMB,Tryz.results63,q2]
 intro v3 q3
 refine .seqK (.sR fun e h=>?_)
 simp only [seval,EMB,fld_48_2,sz_9,ag_9,und_9,q3]
 refine mU e (.condF rfl (.exit fun e h=>?_)) h
 cases h
 simp only [seval,FMB,Tryz.results63]
 intro v4
 refine Mir.toK (.sR fun e h=>?_)
 simp only [seval,EMB]
 refine mU e (.ret fun e h=>?_) h
 cases h
 simp only [seval,FMB,Tryz.results63]
def r41_digits (a0 : Int) : Option (List UInt8) := bindO (loopX (fun (v1 : Int × (List UInt8))=>if ((decide (v1.1 > 0)) || (v1.2 == [])) = true then guardO (okStr (runeS (IntKind.i32.wrap (IntKind.u64.wrap (48 + (Int.tmod v1.1 10))))) v1.2) ( some (.go (IntKind.u64.wrap (Int.tdiv v1.1 10),(runeS (IntKind.i32.wrap (IntKind.u64.wrap (48 + (Int.tmod v1.1 10))))) ++ v1.2))) else some (.ret v1.2)) fuel (a0,[])) fun (v2 : (List UInt8))=>some v2
theorem r41_digits_spec {a0 : Int} {y : (List UInt8)} (h : r41_digits a0 = some y) : Spec gP 93 [.d (.int .u64 a0)] (.d (.str y)) := by
 refine spec_mir Tryz.func93 rfl (by kernel_rfl) (by kernel_rfl) (fun y : (List UInt8)=>.d (.str y)) ?_ h
 unfold r41_digits
 simp only [List.replicate,List.length,nS,nA,Tryz.ntmps93,SV]
 refine .sR fun e h=>?_
 simp only [seval,EMB]
 refine mU e (.sR fun e h=>?_) h
 simp only [seval,EMB]
 refine mU e (.seqK (Mir.joinO (fun v2 : (List UInt8)=>([U,U,U,.d (.str v2)] ++ us 16)) (fun v2=>⟨[],[]⟩) (fun _=>rfl) ?_ ?_)) h
 refine .block (Mir.loop (fun v1 : Int × (List UInt8)=>([.d (.int .u64 v1.1),U,U,.d (.str v1.2)] ++ us 16)) (fun v1=>⟨[],[]⟩) (fun _=>rfl) (by simp only [seval,FMB]) (by simp only [seval,FMB]) fun v1=>.seqK (.seqK (.joinV ([.d (.int .u64 v1.1),U,U,.d (.str v1.2),U,U,U,U,U,.d (.bool ((decide (v1.1 > 0)) || (v1.2 == [])))] ++ us 10) ⟨[],[]⟩ rfl ?_ ?_)))
 refine SWs.region ?_
 rcases Bool.eq_false_or_eq_true (decide (v1.1 > 0)) with hb25 | hb25
 simp only [seval,EMB,SL,PB,hb25]
 simp only [seval,EMB,SL,PB,hb25]
 refine Mir.toK (.cond rfl (fun hb27=>?_) (fun hb27=>?_))
 refine .skip (Mir.toK (.block (.seqK (.guard fun q28=>?_))))
 replace q28 := okStr_ok q28
 refine .region fun e h=>?_
 simp only [seval,EMB,und_125,und_21,und_9,rune_enc,q28]
 refine mU e (.region fun e h=>?_) h
 simp only [seval,EMB]
 cases h
 simp only [seval,FMB,Tryz.results93]
 refine .exit fun e h=>?_
 cases h
 simp only [seval,FMB,Tryz.results93]
 intro v2
 refine Mir.toK (.sR fun e h=>?_)
 simp only [seval,EMB]
 refine mU e (.ret fun e h=>?_) h
 cases h
 simp only [seval,FMB,Tryz.results93]
def r41_Text (a0 : Int) : Option (List UInt8) := bindO (if (decide (a0 < 0)) = true then some ([45],IntKind.u64.wrap (0 - (IntKind.u64.wrap a0))) else some ([],IntKind.u64.wrap a0)) fun (v1 : (List UInt8) × Int)=>bindO (r41_digits (IntKind.u64.wrap (Int.tdiv v1.2 1000))) fun (y1 : (List UInt8))=>guardO (okStr v1.1 y1) ( bindO (if (decide ((Int.tmod v1.2 1000) > 0)) = true then bindO (r41_digits (IntKind.u64.wrap (1000 + (Int.tmod v1.2 1000)))) fun (y2 : (List UInt8))=>bindO (cutF y2 1) fun (s1 : (List UInt8))=>bindO (loopX (fun (v2 : (List UInt8))=>bindO (gt v2 (IntKind.i64.wrap ((v2.length : Int) - 1))) fun (c1 : UInt8)=>if ((c1.toNat : Int) == 48) = true then bindO (cutT v2 (IntKind.i64.wrap ((v2.length : Int) - 1))) fun (s2 : (List UInt8))=>some (.go s2) else some (.ret v2)) fuel s1) fun (v3 : (List UInt8))=>guardO (okStr (v1.1 ++ y1) [46]) ( guardO (okStr ((v1.1 ++ y1) ++ [46]) v3) ( some (((v1.1 ++ y1) ++ [46]) ++ v3))) else some (v1.1 ++ y1)) fun (v4 : (List UInt8))=>some v4)
theorem r41_Text_spec {a0 : Int} {y : (List UInt8)} (h : r41_Text a0 = some y) : Spec gP 85 [.d (.int .i64 a0)] (.d (.str y)) := by
 refine spec_mir Tryz.func85 rfl (by kernel_rfl) (by kernel_rfl) (fun y : (List UInt8)=>.d (.str y)) ?_ h
 unfold r41_Text
 simp only [List.replicate,List.length,nS,nA,Tryz.ntmps85,SV]
 refine .sR fun e h=>?_
 simp only [seval,EMB]
 refine mU e (.sR fun e h=>?_) h
 simp only [seval,EMB,und_2,und_125]
 refine mU e (.seqK (.sR fun e h=>?_)) h
 simp only [seval,EMB]
 refine mU e (Mir.joinO (fun v1 : (List UInt8) × Int=>([U,U,U,.d (.str v1.1),.d (.int .u64 v1.2)] ++ us 38)) (fun v1=>⟨[],[]⟩) (fun _=>rfl) ?_ ?_) h
 refine .cond rfl (fun hb2=>?_) (fun hb2=>?_)
 refine .region fun e h=>?_
 simp only [seval,EMB]
 cases h
 simp only [seval,FMB,Tryz.results85]
 refine .skip fun e h=>?_
 cases h
 simp only [seval,FMB,Tryz.results85]
 intro v1
 refine Mir.toK (.seqK (.bind fun y1 hy3=>.guard fun q4=>?_))
 replace q4 := okStr_ok q4
 refine .region fun e h=>?_
 simp only [seval,EMB]
 refine SpecS.by (r41_digits_spec hy3) (by simp only [seval,FMB]) ?_
 simp only [seval,EMB,q4]
 refine mU e (.sR fun e h=>?_) h
 simp only [seval,EMB]
 refine mU e (.seqK (.sR fun e h=>?_)) h
 simp only [seval,EMB]
 refine mU e (Mir.joinO (fun v4 : (List UInt8)=>([U,U,U,U,U,.d (.str v4)] ++ us 37)) (fun v4=>⟨[],[]⟩) (fun _=>rfl) ?_ ?_) h
 refine .cond rfl (fun hb38=>?_) (fun hb38=>?_)
 refine .seqK (.bind fun y2 hy39=>.bind fun s1 q40=>?_)
 replace q40 := cutF_ok q40
 simp only [Int.reduceToNat,Int.reduceLT,Nat.sub_zero,dp0] at q40
 refine .region fun e h=>?_
 simp only [seval,EMB]
 refine SpecS.by (r41_digits_spec hy39) (by simp only [seval,FMB]) ?_
 simp only [seval,EMB,und_9,q40,Nat.le_refl,and_true,true_and,dm,tm]
 refine mU e (.seqK (Mir.joinO (fun v3 : (List UInt8)=>([U,U,U,U,U,.d (.str (v1.1 ++ y1)),U,.d (.str v3)] ++ us 35)) (fun v3=>⟨[],[]⟩) (fun _=>rfl) ?_ ?_)) h
 refine .block (Mir.loop (fun v2 : (List UInt8)=>([U,U,U,U,U,.d (.str (v1.1 ++ y1)),U,.d (.str v2)] ++ us 35)) (fun v2=>⟨[],[]⟩) (fun _=>rfl) (by simp only [seval,FMB]) (by simp only [seval,FMB]) fun v2=>.seqK (.seqK (.bind fun c1 q65=>?_)))
 replace q65 := gt_ok q65
 refine .region fun e h=>?_
 simp only [seval,EMB,und_9,q65]
 refine mU e (.cond rfl (fun hb67=>?_) (fun hb67=>?_)) h
 refine .skip (Mir.toK (.block (.bind fun s2 q68=>?_)))
 replace q68 := cutT_ok q68
 refine .region fun e h=>?_
 simp only [seval,EMB,und_9,q68,Nat.le_refl,and_true,true_and,dm,tm]
 cases h
 simp only [seval,FMB,Tryz.results85]
 refine .exit fun e h=>?_
 cases h
 simp only [seval,FMB,Tryz.results85]
 intro v3
 refine Mir.toK (.guard fun q69=>?_)
 replace q69 := okStr_ok q69
 try simp only [lm,xNA,xCA,xAN,xLC,xLN,xAC,xAL,nA,Nat.zero_add] at q69
 refine .guard fun q70=>?_
 replace q70 := okStr_ok q70
 try simp only [lm,xNA,xCA,xAN,xLC,xLN,xAC,xAL,nA,Nat.zero_add] at q70
 refine .region fun e h=>?_
 simp only [seval,EMB,q69,q70]
 cases h
 simp only [seval,FMB,Tryz.results85]
 refine .skip fun e h=>?_
 cases h
 simp only [seval,FMB,Tryz.results85]
 intro v4
 refine Mir.toK (.sR fun e h=>?_)
 simp only [seval,EMB]
 refine mU e (.ret fun e h=>?_) h
 cases h
 simp only [seval,FMB,Tryz.results85]
def r41_Word (a0 : ApiWord) : Option (List UInt8) := bindO (r41_Text a0.Value) fun (y1 : (List UInt8))=>guardO (okStr (runeS (IntKind.i32.wrap a0.Letter)) y1) ( some ((runeS (IntKind.i32.wrap a0.Letter)) ++ y1))
theorem r41_Word_spec {a0 : ApiWord} {y : (List UInt8)} (h : r41_Word a0 = some y) : Spec gP 64 [.agg [.d (.int .u8 a0.Letter),.d (.int .i64 a0.Value)]] (.d (.str y)) := by
 refine spec_mir Tryz.func64 rfl (by kernel_rfl) (by kernel_rfl) (fun y : (List UInt8)=>.d (.str y)) ?_ h
 unfold r41_Word
 simp only [List.replicate,List.length,nS,nA,Tryz.ntmps64,SV]
 refine .sR fun e h=>?_
 simp only [seval,EMB]
 refine mU e (.seqK (.bind fun y1 hy1=>.guard fun q2=>?_)) h
 replace q2 := okStr_ok q2
 refine .regionD [] (by kernel_rfl) fun e h=>?_
 simp only [seval,EMB,SB,fld_83_0,sz_5,ag_5,und_5,und_21,und_9,rune_enc,fld_83_1,sz_2,ag_2]
 refine Spec.by (r41_Text_spec hy1) (by simp only [seval,FMB]) ?_
 simp only [seval,EMB,SB,q2]
 refine mU e (.ret fun e h=>?_) h
 cases h
 simp only [seval,FMB,Tryz.results64]
def r41_Format (a0 : ApiBlock) : Option ((List UInt8) × Int) := bindO (r41_Valid a0) fun (y1 : Int)=>if (y1 != 0) = true then some ([],y1) else bindO (guardO (okIdx a0.Words) ( rangeX (fun (i1 : Nat) (e1 : ApiWord) (v1 : (List UInt8))=>bindO (if (decide ((i1 : Int) > 0)) = true then guardO (okStr v1 [32]) ( some (v1 ++ [32])) else some v1) fun (v2 : (List UInt8))=>bindO (r41_Word e1) fun (y2 : (List UInt8))=>guardO (okStr v2 y2) ( some (.go (v2 ++ y2)))) (fun (v1 : (List UInt8))=>some v1) a0.Words 0 [])) fun (v3 : (List UInt8))=>bindO (if (!(a0.Comment == [])) = true then bindO (if (!(v3 == [])) = true then guardO (okStr v3 [32]) ( some (v3 ++ [32])) else some v3) fun (v4 : (List UInt8))=>guardO (okStr v4 [40]) ( guardO (okStr (v4 ++ [40]) a0.Comment) ( guardO (okStr ((v4 ++ [40]) ++ a0.Comment) [41]) ( some (((v4 ++ [40]) ++ a0.Comment) ++ [41])))) else some v3) fun (v5 : (List UInt8))=>bindO (if a0.Skip = true then guardO (okStr [47] v5) ( some ([47] ++ v5)) else some v5) fun (v6 : (List UInt8))=>some (v6,0)
theorem r41_Format_spec {a0 : ApiBlock} {y : (List UInt8) × Int} (h : r41_Format a0 = some y) : Spec gP 36 [.agg [.d (.bool a0.Skip),.d (.list (List.map encApiWord a0.Words)),.d (.str a0.Comment)]] (.tuple [.d (.str y.1),.d (.int .i64 y.2)]) := by
 refine spec_mir Tryz.func36 rfl (by kernel_rfl) (by kernel_rfl) (fun y : (List UInt8) × Int=>.tuple [.d (.str y.1),.d (.int .i64 y.2)]) ?_ h
 unfold r41_Format
 simp only [List.replicate,List.length,nS,nA,Tryz.ntmps36,SV]
 refine .sR fun e h=>?_
 simp only [seval,EMB]
 refine mU e (.seqK (.seqK (.bind fun y1 hy1=>.region fun e h=>?_))) h
 simp only [seval,EMB,ag_48,sz_48]
 refine SpecS.by (r41_Valid_spec hy1) (by simp only [seval,FMB]) ?_
 simp only [seval,EMB]
 refine mU e (.sR fun e h=>?_) h
 simp only [seval,EMB]
 refine mU e (.cond rfl (fun hb3=>?_) (fun hb3=>?_)) h
 refine .sR fun e h=>?_
 simp only [seval,EMB]
 refine mU e (.ret fun e h=>?_) h
 cases h
 simp only [seval,FMB,Tryz.results36]
 refine .skip (Mir.toK (.sR fun e h=>?_))
 simp only [seval,EMB]
 refine mU e (.seqK (.sR fun e h=>?_)) h
 simp only [seval,EMB]
 refine mU e (Mir.joinO (fun v3 : (List UInt8)=>([U,.ptr 0 0,U,U,U,.d (.str v3)] ++ us 43)) (fun v3=>⟨[[.d (.bool a0.Skip),.d (.list (List.map encApiWord a0.Words)),.d (.str a0.Comment)]],[]⟩) (fun _=>rfl) ?_ ?_) h
 refine .block (.guard fun q1=>Mir.range (fun (i1 : Nat) (v1 : (List UInt8))=>([U,.ptr 0 0,U,U,U,.d (.str v1),.d (.int .i64 (i1 : Int))] ++ us 42)) (fun i1 v1=>⟨[[.d (.bool a0.Skip),.d (.list (List.map encApiWord a0.Words)),.d (.str a0.Comment)]],[]⟩) q1 (fun _ _=>rfl) (by simp only [seval,FMB,zNI]) (by simp only [seval,FMB,zNI]) ?_ ?_)
 intro i1 e1 v1 qr99
 refine .seqK (.sR fun e h=>?_)
 simp only [seval,EMB,fld_48_1,sz_46,ag_46,und_46,qr99]
 refine mU e (.condT rfl (.skip (Mir.toK (.seqK (.block (.seqK (.sR fun e h=>?_))))))) h
 simp only [seval,EMB]
 refine mU e (Mir.joinO (fun v2 : (List UInt8)=>([U,.ptr 0 0,U,U,U,.d (.str v2),.d (.int .i64 (i1 : Int))] ++ us 42)) (fun v2=>⟨[[.d (.bool a0.Skip),.d (.list (List.map encApiWord a0.Words)),.d (.str a0.Comment)]],[]⟩) (fun _=>rfl) ?_ ?_) h
 refine .cond rfl (fun h1=>?_) (fun h1=>?_)
 refine .guard fun q2=>?_
 replace q2 := okStr_ok q2
 try simp only [lm,xNA,xCA,xAN,xLC,xLN,xAC,xAL,nA,Nat.zero_add] at q2
 refine .region fun e h=>?_
 simp only [seval,EMB,q2]
 cases h
 simp only [seval,FMB,Tryz.results36]
 refine .skip fun e h=>?_
 cases h
 simp only [seval,FMB,Tryz.results36]
 intro v2
 refine Mir.toK (.bind fun y2 h2=>.guard fun q3=>?_)
 replace q3 := okStr_ok q3
 refine .region fun e h=>?_
 simp only [seval,EMB,fld_48_1,sz_46,ag_46,und_46,sz_83,qr99,Int.toNat_natCast,ag_83]
 refine SpecS.by (r41_Word_spec h2) (by simp only [seval,FMB]) ?_
 simp only [seval,EMB,q3]
 refine mU e (.region fun e h=>?_) h
 simp only [seval,EMB]
 cases h
 simp only [seval,FMB,Tryz.results36,qr99]
 intro v1 q4
 refine .seqK (.sR fun e h=>?_)
 simp only [seval,EMB,fld_48_1,sz_46,ag_46,und_46,q4]
 refine mU e (.condF rfl (.exit fun e h=>?_)) h
 cases h
 simp only [seval,FMB,Tryz.results36]
 intro v3
 refine Mir.toK (.seqK (.sR fun e h=>?_))
 simp only [seval,EMB,fld_48_2,sz_9,ag_9]
 refine mU e (Mir.joinO (fun v5 : (List UInt8)=>([U,.ptr 0 0,U,U,U,.d (.str v5)] ++ us 43)) (fun v5=>⟨[[.d (.bool a0.Skip),.d (.list (List.map encApiWord a0.Words)),.d (.str a0.Comment)]],[]⟩) (fun _=>rfl) ?_ ?_) h
 refine .cond rfl (fun h3=>?_) (fun h3=>?_)
 refine .seqK (.sR fun e h=>?_)
 simp only [seval,EMB]
 refine mU e (Mir.joinO (fun v4 : (List UInt8)=>([U,.ptr 0 0,U,U,U,.d (.str v4)] ++ us 43)) (fun v4=>⟨[[.d (.bool a0.Skip),.d (.list (List.map encApiWord a0.Words)),.d (.str a0.Comment)]],[]⟩) (fun _=>rfl) ?_ ?_) h
 refine .cond rfl (fun h4=>?_) (fun h4=>?_)
 refine .guard fun q5=>?_
 replace q5 := okStr_ok q5
 try simp only [lm,xNA,xCA,xAN,xLC,xLN,xAC,xAL,nA,Nat.zero_add] at q5
 refine .region fun e h=>?_
 simp only [seval,EMB,q5]
 cases h
 simp only [seval,FMB,Tryz.results36]
 refine .skip fun e h=>?_
 cases h
 simp only [seval,FMB,Tryz.results36]
 intro v4
 refine Mir.toK (.guard fun q6=>?_)
 replace q6 := okStr_ok q6
 try simp only [lm,xNA,xCA,xAN,xLC,xLN,xAC,xAL,nA,Nat.zero_add] at q6
 refine .guard fun q7=>?_
 replace q7 := okStr_ok q7
 try simp only [lm,xNA,xCA,xAN,xLC,xLN,xAC,xAL,nA,Nat.zero_add] at q7
 refine .guard fun q8=>?_
 replace q8 := okStr_ok q8
 try simp only [lm,xNA,xCA,xAN,xLC,xLN,xAC,xAL,nA,Nat.zero_add] at q8
 refine .region fun e h=>?_
 simp only [seval,EMB,q6,fld_48_2,sz_9,ag_9,q7,q8]
 cases h
 simp only [seval,FMB,Tryz.results36]
 refine .skip fun e h=>?_
 cases h
 simp only [seval,FMB,Tryz.results36]
 intro v5
 refine Mir.toK (.seqK (.sR fun e h=>?_))
 simp only [seval,EMB,fld_48_0,sz_4,ag_4]
 refine mU e (Mir.joinO (fun v6 : (List UInt8)=>([U,U,U,U,U,.d (.str v6)] ++ us 43)) (fun v6=>⟨[[.d (.bool a0.Skip),.d (.list (List.map encApiWord a0.Words)),.d (.str a0.Comment)]],[]⟩) (fun _=>rfl) ?_ ?_) h
 refine .cond rfl (fun h5=>?_) (fun h5=>?_)
 refine .guard fun q9=>?_
 replace q9 := okStr_ok q9
 try simp only [lm,xNA,xCA,xAN,xLC,xLN,xAC,xAL,nA,Nat.zero_add] at q9
 refine .region fun e h=>?_
 simp only [seval,EMB,q9]
 cases h
 simp only [seval,FMB,Tryz.results36]
 refine .skip fun e h=>?_
 cases h
 simp only [seval,FMB,Tryz.results36]
 intro v6
 refine Mir.toK (.sR fun e h=>?_)
 simp only [seval,EMB]
 refine mU e (.ret fun e h=>?_) h
 cases h
 simp only [seval,FMB,Tryz.results36]
def l46_text (a0 : ApiBlock) (a1 : Int) : Option (List UInt8) := if (a1 != 0) = true then bindO (api_Errno_String a1) fun (y1 : (List UInt8))=>some y1 else bindO (r41_Format (ApiBlock.mk a0.Skip a0.Words a0.Comment)) fun (y2 : (List UInt8) × Int)=>some y2.1
theorem l46_text_spec {a0 : ApiBlock} {a1 : Int} {y : (List UInt8)} (h : l46_text a0 a1 = some y) : Spec gP 11 [.agg [.d (.bool a0.Skip),.d (.list (List.map encApiWord a0.Words)),.d (.str a0.Comment)],.d (.int .i64 a1)] (.d (.str y)) := by
 refine spec_mir Tryz.func11 rfl (by kernel_rfl) (by kernel_rfl) (fun y : (List UInt8)=>.d (.str y)) ?_ h
 unfold l46_text
 simp only [List.replicate,List.length,nS,nA,Tryz.ntmps11,SV]
 refine .sR fun e h=>?_
 simp only [seval,EMB]
 refine mU e (.seqK (.sR fun e h=>?_)) h
 simp only [seval,EMB]
 refine mU e (.cond rfl (fun hb3=>?_) (fun hb3=>?_)) h
 refine .seqK (.bind fun y1 hy4=>.region fun e h=>?_)
 simp only [seval,EMB]
 refine SpecS.by (api_Errno_String_spec hy4) (by simp only [seval,FMB]) ?_
 simp only [seval,EMB]
 refine mU e (.ret fun e h=>?_) h
 cases h
 simp only [seval,FMB,Tryz.results11]
 refine .skip (Mir.toK (.seqK (.bind fun y2 hy5=>.region fun e h=>?_)))
 simp only [seval,EMB,ag_48,sz_48]
 refine SpecS.by (r41_Format_spec hy5) (by simp only [seval,FMB]) ?_
 simp only [seval,EMB]
 refine mU e (.sR fun e h=>?_) h
 simp only [seval,EMB]
 refine mU e (.ret fun e h=>?_) h
 cases h
 simp only [seval,FMB,Tryz.results11]
def po_Change (a0 : Int) : Option ((List ApiBlock) × Int) := if ((decide (a0 < 1)) || (decide (a0 > 999))) = true then some ([],1) else bindO (po_whole 84 a0) fun (y1 : ApiWord)=>bindO (po_whole 77 6) fun (y2 : ApiWord)=>bindO (po_words [y1,y2]) fun (y3 : ApiBlock)=>bindO (po_whole 71 43) fun (y4 : ApiWord)=>bindO (po_whole 72 a0) fun (y5 : ApiWord)=>bindO (po_words [y4,y5]) fun (y6 : ApiBlock)=>some ([y3,y6],0)
theorem po_Change_spec {a0 : Int} {y : (List ApiBlock) × Int} (h : po_Change a0 = some y) : Spec gP 13 [.d (.int .i64 a0)] (.tuple [.d (.list (List.map encApiBlock y.1)),.d (.int .i64 y.2)]) := by
 refine spec_mir Tryz.func13 rfl (by kernel_rfl) (by kernel_rfl) (fun y : (List ApiBlock) × Int=>.tuple [.d (.list (List.map encApiBlock y.1)),.d (.int .i64 y.2)]) ?_ h
 unfold po_Change
 simp only [List.replicate,List.length,nS,nA,Tryz.ntmps13,SV]
 refine .sR fun e h=>?_
 simp only [seval,EMB]
 refine mU e (.seqK (.seqK (.joinV ([.d (.int .i64 a0),U,U,U,U,U,U,U,U,U,.d (.bool ((decide (a0 < 1)) || (decide (a0 > 999))))] ++ us 12) ⟨[],[]⟩ rfl ?_ ?_))) h
 refine SWs.region ?_
 rcases Bool.eq_false_or_eq_true (decide (a0 < 1)) with hb1 | hb1
 simp only [seval,EMB,SL,PB,hb1]
 simp only [seval,EMB,SL,PB,hb1]
 refine Mir.toK (.cond rfl (fun hb3=>?_) (fun hb3=>?_))
 refine .sR fun e h=>?_
 simp only [seval,EMB]
 refine mU e (.ret fun e h=>?_) h
 cases h
 simp only [seval,FMB,Tryz.results13]
 refine .skip (Mir.toK (.sR fun e h=>?_))
 simp only [seval,EMB]
 refine mU e (.seqK (.bind fun y1 hy4=>.bind fun y2 hy5=>.bind fun y3 hy6=>.bind fun y4 hy7=>.bind fun y5 hy8=>.bind fun y6 hy9=>.region fun e h=>?_)) h
 simp only [seval,EMB]
 refine SpecS.by (po_whole_spec hy4) (by simp only [seval,FMB]) ?_
 simp only [seval,EMB]
 refine SpecS.by (po_whole_spec hy5) (by simp only [seval,FMB]) ?_
 simp only [seval,EMB,und_46,sz_83,zero_83,(oL 4)]
 refine SpecS.byF (po_words_specF hy6) (by simp only [seval,FMB]) ?_
 simp only [seval,EMB]
 refine SpecS.by (po_whole_spec hy7) (by simp only [seval,FMB]) ?_
 simp only [seval,EMB]
 refine SpecS.by (po_whole_spec hy8) (by simp only [seval,FMB]) ?_
 simp only [seval,EMB,und_46,sz_83,zero_83,(oL 4)]
 refine SpecS.byF (po_words_specF hy9) (by simp only [seval,FMB]) ?_
 simp only [seval,EMB,und_31,sz_48,zero_48,(oL 6)]
 refine mU e (.ret fun e h=>?_) h
 cases h
 simp only [seval,FMB,Tryz.results13]
def md_Group (a0 : Int) : Option Int := bindO (if (a0 == 0) = true then some (a0 == 0) else if (a0 == 1000) = true then some (a0 == 1000) else if (a0 == 2000) = true then some (a0 == 2000) else if (a0 == 3000) = true then some (a0 == 3000) else if (a0 == 80000) = true then some (a0 == 80000) else if (a0 == 81000) = true then some (a0 == 81000) else if (a0 == 82000) = true then some (a0 == 82000) else some (a0 == 83000)) fun (v1 : Bool)=>if v1 = true then some 1 else bindO (if (a0 == 90000) = true then some (a0 == 90000) else some (a0 == 91000)) fun (v2 : Bool)=>if v2 = true then some 2 else bindO (if (a0 == 54000) = true then some (a0 == 54000) else if (a0 == 55000) = true then some (a0 == 55000) else if (a0 == 56000) = true then some (a0 == 56000) else if (a0 == 57000) = true then some (a0 == 57000) else if (a0 == 58000) = true then some (a0 == 58000) else some (a0 == 59000)) fun (v3 : Bool)=>if v3 = true then some 3 else bindO (if (a0 == 43000) = true then some (a0 == 43000) else some (a0 == 49000)) fun (v4 : Bool)=>if v4 = true then some 4 else bindO (if (a0 == 98000) = true then some (a0 == 98000) else some (a0 == 99000)) fun (v5 : Bool)=>if v5 = true then some 5 else some 0
theorem md_Group_spec {a0 : Int} {y : Int} (h : md_Group a0 = some y) : Spec gP 42 [.d (.int .i64 a0)] (.d (.int .i64 y)) := by
 refine spec_mir Tryz.func42 rfl (by kernel_rfl) (by kernel_rfl) (fun y : Int=>.d (.int .i64 y)) ?_ h
 unfold md_Group
 simp only [List.replicate,List.length,nS,nA,Tryz.ntmps42,SV]
 refine .sR fun e h=>?_
 simp only [seval,EMB]
 refine mU e (.seqK (.sR fun e h=>?_)) h
 simp only [seval,EMB]
 refine mU e (.block (.seqK (.sR fun e h=>?_))) h
 simp only [seval,EMB]
 refine mU e (Mir.joinO (fun v1 : Bool=>([U,U,U,.d (.int .i64 a0),.d (.bool v1)] ++ us 24)) (fun v1=>⟨[],[]⟩) (fun _=>rfl) ?_ ?_) h
 refine .cond rfl (fun hb43=>?_) (fun hb43=>?_)
 refine .skip fun e h=>?_
 cases h
 simp only [seval,FMB,Tryz.results42]
 refine .sR fun e h=>?_
 simp only [seval,EMB]
 refine mU e (.cond rfl (fun hb44=>?_) (fun hb44=>?_)) h
 refine .skip fun e h=>?_
 cases h
 simp only [seval,FMB,Tryz.results42]
 refine .sR fun e h=>?_
 simp only [seval,EMB]
 refine mU e (.cond rfl (fun hb45=>?_) (fun hb45=>?_)) h
 refine .skip fun e h=>?_
 cases h
 simp only [seval,FMB,Tryz.results42]
 refine .sR fun e h=>?_
 simp only [seval,EMB]
 refine mU e (.cond rfl (fun hb46=>?_) (fun hb46=>?_)) h
 refine .skip fun e h=>?_
 cases h
 simp only [seval,FMB,Tryz.results42]
 refine .sR fun e h=>?_
 simp only [seval,EMB]
 refine mU e (.cond rfl (fun hb47=>?_) (fun hb47=>?_)) h
 refine .skip fun e h=>?_
 cases h
 simp only [seval,FMB,Tryz.results42]
 refine .sR fun e h=>?_
 simp only [seval,EMB]
 refine mU e (.cond rfl (fun hb48=>?_) (fun hb48=>?_)) h
 refine .skip fun e h=>?_
 cases h
 simp only [seval,FMB,Tryz.results42]
 refine .sR fun e h=>?_
 simp only [seval,EMB]
 refine mU e (.cond rfl (fun hb49=>?_) (fun hb49=>?_)) h
 refine .skip fun e h=>?_
 cases h
 simp only [seval,FMB,Tryz.results42]
 refine .region fun e h=>?_
 simp only [seval,EMB]
 cases h
 simp only [seval,FMB,Tryz.results42]
 intro v1
 refine Mir.toK (.cond rfl (fun hb71=>?_) (fun hb71=>?_))
 refine .sR fun e h=>?_
 simp only [seval,EMB]
 refine mU e (.ret fun e h=>?_) h
 cases h
 simp only [seval,FMB,Tryz.results42]
 refine .seqK (.sR fun e h=>?_)
 simp only [seval,EMB]
 refine mU e (Mir.joinO (fun v2 : Bool=>([U,U,U,.d (.int .i64 a0),U,U,U,U,U,U,U,U,U,.d (.bool v2)] ++ us 15)) (fun v2=>⟨[],[]⟩) (fun _=>rfl) ?_ ?_) h
 refine .cond rfl (fun hb73=>?_) (fun hb73=>?_)
 refine .skip fun e h=>?_
 cases h
 simp only [seval,FMB,Tryz.results42]
 refine .region fun e h=>?_
 simp only [seval,EMB]
 cases h
 simp only [seval,FMB,Tryz.results42]
 intro v2
 refine Mir.toK (.cond rfl (fun hb92=>?_) (fun hb92=>?_))
 refine .sR fun e h=>?_
 simp only [seval,EMB]
 refine mU e (.ret fun e h=>?_) h
 cases h
 simp only [seval,FMB,Tryz.results42]
 refine .seqK (.sR fun e h=>?_)
 simp only [seval,EMB]
 refine mU e (Mir.joinO (fun v3 : Bool=>([U,U,U,.d (.int .i64 a0),U,U,U,U,U,U,U,U,U,U,U,U,.d (.bool v3)] ++ us 12)) (fun v3=>⟨[],[]⟩) (fun _=>rfl) ?_ ?_) h
 refine .cond rfl (fun hb98=>?_) (fun hb98=>?_)
 refine .skip fun e h=>?_
 cases h
 simp only [seval,FMB,Tryz.results42]
 refine .sR fun e h=>?_
 simp only [seval,EMB]
 refine mU e (.cond rfl (fun hb99=>?_) (fun hb99=>?_)) h
 refine .skip fun e h=>?_
 cases h
 simp only [seval,FMB,Tryz.results42]
 refine .sR fun e h=>?_
 simp only [seval,EMB]
 refine mU e (.cond rfl (fun h1=>?_) (fun h1=>?_)) h
 refine .skip fun e h=>?_
 cases h
 simp only [seval,FMB,Tryz.results42]
 refine .sR fun e h=>?_
 simp only [seval,EMB]
 refine mU e (.cond rfl (fun h2=>?_) (fun h2=>?_)) h
 refine .skip fun e h=>?_
 cases h
 simp only [seval,FMB,Tryz.results42]
 refine .sR fun e h=>?_
 simp only [seval,EMB]
 refine mU e (.cond rfl (fun h3=>?_) (fun h3=>?_)) h
 refine .skip fun e h=>?_
 cases h
 simp only [seval,FMB,Tryz.results42]
 refine .region fun e h=>?_
 simp only [seval,EMB]
 cases h
 simp only [seval,FMB,Tryz.results42]
 intro v3
 refine Mir.toK (.cond rfl (fun h4=>?_) (fun h4=>?_))
 refine .sR fun e h=>?_
 simp only [seval,EMB]
 refine mU e (.ret fun e h=>?_) h
 cases h
 simp only [seval,FMB,Tryz.results42]
 refine .seqK (.sR fun e h=>?_)
 simp only [seval,EMB]
 refine mU e (Mir.joinO (fun v4 : Bool=>([U,U,U,.d (.int .i64 a0),U,U,U,U,U,U,U,U,U,U,U,U,U,U,U,U,U,U,U,.d (.bool v4)] ++ us 5)) (fun v4=>⟨[],[]⟩) (fun _=>rfl) ?_ ?_) h
 refine .cond rfl (fun h5=>?_) (fun h5=>?_)
 refine .skip fun e h=>?_
 cases h
 simp only [seval,FMB,Tryz.results42]
 refine .region fun e h=>?_
 simp only [seval,EMB]
 cases h
 simp only [seval,FMB,Tryz.results42]
 intro v4
 refine Mir.toK (.cond rfl (fun h6=>?_) (fun h6=>?_))
 refine .sR fun e h=>?_
 simp only [seval,EMB]
 refine mU e (.ret fun e h=>?_) h
 cases h
 simp only [seval,FMB,Tryz.results42]
 refine .seqK (.sR fun e h=>?_)
 simp only [seval,EMB]
 refine mU e (Mir.joinO (fun v5 : Bool=>[U,U,U,U,U,U,U,U,U,U,U,U,U,U,U,U,U,U,U,U,U,U,U,U,U,U,.d (.bool v5),U,U]) (fun v5=>⟨[],[]⟩) (fun _=>rfl) ?_ ?_) h
 refine .cond rfl (fun h7=>?_) (fun h7=>?_)
 refine .skip fun e h=>?_
 cases h
 simp only [seval,FMB,Tryz.results42]
 refine .region fun e h=>?_
 simp only [seval,EMB]
 cases h
 simp only [seval,FMB,Tryz.results42]
 intro v5
 refine Mir.toK (.cond rfl (fun h8=>?_) (fun h8=>?_))
 refine .sR fun e h=>?_
 simp only [seval,EMB]
 refine mU e (.ret fun e h=>?_) h
 cases h
 simp only [seval,FMB,Tryz.results42]
 refine .skip (Mir.toB (Mir.toK (.sR fun e h=>?_)))
 simp only [seval,EMB]
 refine mU e (.ret fun e h=>?_) h
 cases h
 simp only [seval,FMB,Tryz.results42]
def po_Valid (a0 : PostOptions) : Option Int := bindO (bindO (md_Group a0.Work) fun (y1 : Int)=>if (y1 != 3) = true then some true else if (decide (a0.Numbers < 0)) = true then some true else if (decide (a0.Numbers > 1000)) = true then some true else if (a0.Fold != 0) = true then if (decide (a0.Fold < 2)) = true then some true else some (decide (a0.Fold > 100)) else some false) fun (v1 : Bool)=>if v1 = true then some 1 else some 0
theorem po_Valid_spec {a0 : PostOptions} {y : Int} (h : po_Valid a0 = some y) : Spec gP 15 [.agg [.d (.int .i64 a0.Work),.d (.bool a0.Compress),.d (.int .i64 a0.Numbers),.d (.int .i64 a0.Fold)]] (.d (.int .i64 y)) := by
 refine spec_mir Tryz.func15 rfl (by kernel_rfl) (by kernel_rfl) (fun y : Int=>.d (.int .i64 y)) ?_ h
 unfold po_Valid
 simp only [List.replicate,List.length,nS,nA,Tryz.ntmps15,SV]
 refine .sR fun e h=>?_
 simp only [seval,EMB]
 refine mU e (.seqK (.seqK (Mir.joinO (fun v1 : Bool=>[U,U,U,U,U,U,U,U,U,U,U,U,U,U,U,U,U,U,U,U,U,U,U,U,U,U,U,U,U,U,U,.d (.bool v1)]) (fun v1=>⟨[[.d (.int .i64 a0.Work),.d (.bool a0.Compress),.d (.int .i64 a0.Numbers),.d (.int .i64 a0.Fold)]],[]⟩) (fun _=>rfl) ?_ ?_))) h
 refine .bind fun y1 hy1=>.ite (fun hb2=>?_) (fun hb2=>?_)
 refine .region fun e h=>?_
 simp only [seval,EMB,fld_35_0,sz_2,ag_2,hb2]
 refine SpecS.by (md_Group_spec hy1) (by simp only [seval,FMB,hb2]) ?_
 simp only [seval,EMB,hb2]
 cases h
 simp only [seval,FMB,hb2]
 refine .ite (fun hb3=>?_) (fun hb3=>?_)
 refine .region fun e h=>?_
 simp only [seval,EMB,fld_35_0,sz_2,ag_2,hb2,hb3]
 refine SpecS.by (md_Group_spec hy1) (by simp only [seval,FMB,hb2,hb3]) ?_
 simp only [seval,EMB,fld_35_2,sz_2,ag_2,hb2,hb3]
 cases h
 simp only [seval,FMB,hb2,hb3]
 refine .ite (fun hb4=>?_) (fun hb4=>?_)
 refine .region fun e h=>?_
 simp only [seval,EMB,fld_35_0,sz_2,ag_2,hb2,hb3,hb4]
 refine SpecS.by (md_Group_spec hy1) (by simp only [seval,FMB,hb2,hb3,hb4]) ?_
 simp only [seval,EMB,fld_35_2,sz_2,ag_2,hb2,hb3,hb4]
 cases h
 simp only [seval,FMB,hb2,hb3,hb4]
 refine .ite (fun hb5=>?_) (fun hb5=>?_)
 refine .ite (fun hb6=>?_) (fun hb6=>?_)
 refine .region fun e h=>?_
 simp only [seval,EMB,fld_35_0,sz_2,ag_2,hb2,hb3,hb4,hb5,hb6]
 refine SpecS.by (md_Group_spec hy1) (by simp only [seval,FMB,hb2,hb3,hb4,hb5,hb6]) ?_
 simp only [seval,EMB,fld_35_2,sz_2,ag_2,fld_35_3,sz_3,ag_3,hb2,hb3,hb4,hb5,hb6]
 cases h
 simp only [seval,FMB,hb2,hb3,hb4,hb5,hb6]
 refine .region fun e h=>?_
 simp only [seval,EMB,fld_35_0,sz_2,ag_2,hb2,hb3,hb4,hb5,hb6]
 refine SpecS.by (md_Group_spec hy1) (by simp only [seval,FMB,hb2,hb3,hb4,hb5,hb6]) ?_
 simp only [seval,EMB,fld_35_2,sz_2,ag_2,fld_35_3,sz_3,ag_3,hb2,hb3,hb4,hb5,hb6]
 cases h
 simp only [seval,FMB,hb2,hb3,hb4,hb5,hb6]
 refine .region fun e h=>?_
 simp only [seval,EMB,fld_35_0,sz_2,ag_2,hb2,hb3,hb4,hb5]
 refine SpecS.by (md_Group_spec hy1) (by simp only [seval,FMB,hb2,hb3,hb4,hb5]) ?_
 simp only [seval,EMB,fld_35_2,sz_2,ag_2,fld_35_3,sz_3,ag_3,hb2,hb3,hb4,hb5]
 cases h
 simp only [seval,FMB,hb2,hb3,hb4,hb5]
 intro v1
 refine Mir.toK (.cond rfl (fun hb8=>?_) (fun hb8=>?_))
 refine .sR fun e h=>?_
 simp only [seval,EMB]
 refine mU e (.ret fun e h=>?_) h
 cases h
 simp only [seval,FMB,Tryz.results15]
 refine .skip (Mir.toK (.sR fun e h=>?_))
 simp only [seval,EMB]
 refine mU e (.ret fun e h=>?_) h
 cases h
 simp only [seval,FMB,Tryz.results15]
def po_plain (a0 : (List ApiStage)) (a1 : ApiPos) (a2 : PostOptions) : Option ((List ApiBlock) × Int) := bindX (if ((decide (a1.X > 10000000)) || (decide (a1.X < (-10000000)))) = true then some (.ret ([],11)) else if ((decide (a1.Y > 10000000)) || (decide (a1.Y < (-10000000)))) = true then some (.ret ([],11)) else if ((decide (a1.Z > 10000000)) || (decide (a1.Z < (-10000000)))) = true then some (.ret ([],11)) else some (.go ())) fun (v1 : Unit)=>bindO (po_whole 71 0) fun (y1 : ApiWord)=>bindO (po_whole 71 90) fun (y2 : ApiWord)=>bindO (po_word 71 a2.Work) fun (y3 : ApiWord)=>bindO (po_whole 71 49) fun (y4 : ApiWord)=>bindO (po_whole 71 98) fun (y5 : ApiWord)=>bindO (po_words [y1,y2,y3,y4,y5]) fun (y6 : ApiBlock)=>bindX (guardO (okIdx a0) ( rangeX (fun (i1 : Nat) (e1 : ApiStage) (v2 : (List ApiBlock) × ApiPos)=>bindX (bindO (po_Change e1.Tool) fun (y7 : (List ApiBlock) × Int)=>if (y7.2 != 0) = true then some (.ret (.ret (.ret ([],y7.2)))) else guardO (okLen (v2.1.length + y7.1.length)) ( guardO (okIdx e1.Moves) ( rangeX (fun (i2 : Nat) (e2 : ApiMove) (v3 : (List ApiBlock) × ApiPos)=>bindO (po_Move v3.2 e2) fun (y8 : ApiBlock × Int)=>if (y8.2 != 0) = true then some (.ret (.ret (.ret (.ret ([],y8.2))))) else guardO (okLen (v3.1.length + 1)) ( some (.go (v3.1 ++ [y8.1],e2.To)))) (fun (v3 : (List ApiBlock) × ApiPos)=>some (.go (v3.1,v3.2))) e1.Moves 0 (v2.1 ++ y7.1,v2.2)))) fun (v4 : (List ApiBlock) × ApiPos)=>some (.go (v4.1,v4.2))) (fun (v2 : (List ApiBlock) × ApiPos)=>some (.go (v2.1,v2.2))) a0 0 ([y6],a1))) fun (v5 : (List ApiBlock) × ApiPos)=>bindO (po_whole 71 49) fun (y9 : ApiWord)=>bindO (po_words [y9]) fun (y10 : ApiBlock)=>bindO (po_whole 77 30) fun (y11 : ApiWord)=>bindO (po_words [y11]) fun (y12 : ApiBlock)=>guardO (okLen (v5.1.length + 2)) ( some (v5.1 ++ [y10,y12],0))
theorem po_plain_spec {a0 : (List ApiStage)} {a1 : ApiPos} {a2 : PostOptions} {y : (List ApiBlock) × Int} (h : po_plain a0 a1 a2 = some y) : Spec gP 16 [.d (.list (List.map encApiStage a0)),.agg [.d (.int .i64 a1.X),.d (.int .i64 a1.Y),.d (.int .i64 a1.Z)],.agg [.d (.int .i64 a2.Work),.d (.bool a2.Compress),.d (.int .i64 a2.Numbers),.d (.int .i64 a2.Fold)]] (.tuple [.d (.list (List.map encApiBlock y.1)),.d (.int .i64 y.2)]) := by
 refine spec_mir Tryz.func16 rfl (by kernel_rfl) (by kernel_rfl) (fun y : (List ApiBlock) × Int=>.tuple [.d (.list (List.map encApiBlock y.1)),.d (.int .i64 y.2)]) ?_ h
 unfold po_plain
 simp only [List.replicate,List.length,nS,nA,Tryz.ntmps16,SV]
 refine .sR fun e h=>?_
 simp only [seval,EMB,eInt]
 refine mU e (.seqK (.sR fun e h=>?_)) h
 simp only [seval,EMB,fld_24_0,sz_2,ag_2,fld_24_1,fld_24_2,und_93,zero_2,(oL 3),(nr rfl : ((3 : Nat) : Int) = 3),eInt]
 refine mU e (Mir.join (fun v1 : Unit=>([.d (.list (List.map encApiStage a0)),U,U,U,.ptr 0 0,.ptr 1 0] ++ us 95)) (fun v1=>⟨[[.d (.int .i64 a1.X),.d (.int .i64 a1.Y),.d (.int .i64 a1.Z)],[.d (.int .i64 a2.Work),.d (.bool a2.Compress),.d (.int .i64 a2.Numbers),.d (.int .i64 a2.Fold)]],[]⟩) (fun _=>rfl) ?_ ?_) h
 refine .block (.loopR 15 (.sR fun e h=>?_))
 simp only [seval,EMB,eInt]
 refine mU e (.seqK (.condT rfl (.skip (Mir.toK (.seqK (.block (.sR fun e h=>?_))))))) h
 simp only [seval,EMB,und_93,sz_2,ag_2,eInt]
 refine mU e (.seqK (.joinV ([.d (.list (List.map encApiStage a0)),U,U,U,.ptr 0 0,.ptr 1 0,U,U,U,U,U,U,U,U,U,U,U,U,U,U,U,U,U,U,U,U,.full (List.map (eInt .i64) [a1.X,a1.Y,a1.Z]),.d (.int .i64 3),.d (.int .i64 0),U,U,U,U,U,U,U,U,.d (.bool ((decide (a1.X > 10000000)) || (decide (a1.X < (-10000000)))))] ++ us 63) ⟨[[.d (.int .i64 a1.X),.d (.int .i64 a1.Y),.d (.int .i64 a1.Z)],[.d (.int .i64 a2.Work),.d (.bool a2.Compress),.d (.int .i64 a2.Numbers),.d (.int .i64 a2.Fold)]],[]⟩ rfl ?_ ?_)) h
 refine SWs.region ?_
 rcases Bool.eq_false_or_eq_true (decide (a1.X > 10000000)) with hb18 | hb18
 simp only [seval,EMB,SL,PB,hb18,eInt]
 simp only [seval,EMB,SL,PB,hb18,eInt]
 refine Mir.toK (.cond rfl (fun hb20=>?_) (fun hb20=>?_))
 refine .sR fun e h=>?_
 simp only [seval,EMB,eInt]
 refine mU e (.ret fun e h=>?_) h
 cases h
 simp only [seval,FMB,eInt,Tryz.results16]
 refine .skip (Mir.toB (Mir.toK (.region fun e h=>?_)))
 simp only [seval,EMB,(nr rfl : IntKind.i64.wrap 1 = 1),eInt]
 refine Mir.useN (e := e) ?_ h
 refine .sR fun e h=>?_
 simp only [seval,EMB,eInt]
 refine mU e (.seqK (.condT rfl (.skip (Mir.toK (.seqK (.block (.sR fun e h=>?_))))))) h
 simp only [seval,EMB,und_93,sz_2,ag_2,eInt]
 refine mU e (.seqK (.joinV ([.d (.list (List.map encApiStage a0)),U,U,U,.ptr 0 0,.ptr 1 0,U,U,U,U,U,U,U,U,U,U,U,U,U,U,U,U,U,U,U,U,.full (List.map (eInt .i64) [a1.X,a1.Y,a1.Z]),.d (.int .i64 3),.d (.int .i64 1),U,U,U,U,U,U,U,U,.d (.bool ((decide (a1.Y > 10000000)) || (decide (a1.Y < (-10000000)))))] ++ us 63) ⟨[[.d (.int .i64 a1.X),.d (.int .i64 a1.Y),.d (.int .i64 a1.Z)],[.d (.int .i64 a2.Work),.d (.bool a2.Compress),.d (.int .i64 a2.Numbers),.d (.int .i64 a2.Fold)]],[]⟩ rfl ?_ ?_)) h
 refine SWs.region ?_
 rcases Bool.eq_false_or_eq_true (decide (a1.Y > 10000000)) with hb23 | hb23
 simp only [seval,EMB,SL,PB,hb23,eInt]
 simp only [seval,EMB,SL,PB,hb23,eInt]
 refine Mir.toK (.cond rfl (fun hb25=>?_) (fun hb25=>?_))
 refine .sR fun e h=>?_
 simp only [seval,EMB,eInt]
 refine mU e (.ret fun e h=>?_) h
 cases h
 simp only [seval,FMB,eInt,Tryz.results16]
 refine .skip (Mir.toB (Mir.toK (.region fun e h=>?_)))
 simp only [seval,EMB,(nr rfl : IntKind.i64.wrap 2 = 2),eInt]
 refine Mir.useN (e := e) ?_ h
 refine .sR fun e h=>?_
 simp only [seval,EMB,eInt]
 refine mU e (.seqK (.condT rfl (.skip (Mir.toK (.seqK (.block (.sR fun e h=>?_))))))) h
 simp only [seval,EMB,und_93,sz_2,ag_2,eInt]
 refine mU e (.seqK (.joinV ([.d (.list (List.map encApiStage a0)),U,U,U,.ptr 0 0,.ptr 1 0,U,U,U,U,U,U,U,U,U,U,U,U,U,U,U,U,U,U,U,U,.full (List.map (eInt .i64) [a1.X,a1.Y,a1.Z]),.d (.int .i64 3),.d (.int .i64 2),U,U,U,U,U,U,U,U,.d (.bool ((decide (a1.Z > 10000000)) || (decide (a1.Z < (-10000000)))))] ++ us 63) ⟨[[.d (.int .i64 a1.X),.d (.int .i64 a1.Y),.d (.int .i64 a1.Z)],[.d (.int .i64 a2.Work),.d (.bool a2.Compress),.d (.int .i64 a2.Numbers),.d (.int .i64 a2.Fold)]],[]⟩ rfl ?_ ?_)) h
 refine SWs.region ?_
 rcases Bool.eq_false_or_eq_true (decide (a1.Z > 10000000)) with hb28 | hb28
 simp only [seval,EMB,SL,PB,hb28,eInt]
 simp only [seval,EMB,SL,PB,hb28,eInt]
 refine Mir.toK (.cond rfl (fun hb30=>?_) (fun hb30=>?_))
 refine .sR fun e h=>?_
 simp only [seval,EMB,eInt]
 refine mU e (.ret fun e h=>?_) h
 cases h
 simp only [seval,FMB,eInt,Tryz.results16]
 refine .skip (Mir.toB (Mir.toK (.region fun e h=>?_)))
 simp only [seval,EMB,(nr rfl : IntKind.i64.wrap 3 = 3),eInt]
 refine Mir.useN (e := e) ?_ h
 refine .sR fun e h=>?_
 simp only [seval,EMB,eInt]
 refine mU e (.seqK (.condF rfl (.exit fun e h=>?_))) h
 cases h
 simp only [seval,FMB,eInt,Tryz.results16]
 intro v1
 refine Mir.toK (.seqK (.bind fun y1 hy31=>.bind fun y2 hy32=>.bind fun y3 hy33=>.bind fun y4 hy34=>.bind fun y5 hy35=>.bind fun y6 hy36=>.regionT 4 [] (by kernel_rfl) fun e h=>?_))
 simp only [seval,EMB,w_none,w_eq,SB,eInt]
 refine Spec.by (po_whole_spec hy31) (by simp only [seval,FMB,eInt]) ?_
 simp only [seval,EMB,w_none,w_eq,SB,eInt]
 refine Spec.by (po_whole_spec hy32) (by simp only [seval,FMB,eInt]) ?_
 simp only [seval,EMB,w_none,w_eq,SB,fld_35_0,sz_2,ag_2,eInt]
 refine regW.alt 5 rfl ?_
 simp only [seval,EMB,w_none,w_eq,eInt]
 refine SpecS.by (po_word_spec hy33) (by simp only [seval,FMB,eInt]) ?_
 simp only [seval,EMB,w_none,w_eq,eInt]
 refine SpecS.by (po_whole_spec hy34) (by simp only [seval,FMB,eInt]) ?_
 simp only [seval,EMB,w_none,w_eq,eInt]
 refine SpecS.by (po_whole_spec hy35) (by simp only [seval,FMB,eInt]) ?_
 simp only [seval,EMB,w_none,w_eq,und_46,sz_83,zero_83,(oL 10),eInt]
 refine SpecS.byF (po_words_specF hy36) (by simp only [seval,FMB,eInt]) ?_
 simp only [seval,EMB,w_none,w_eq,eInt]
 refine alt_litOwn (es := List.map encApiBlock [y6]) app_31 (by simp only [seval,EMB,und_31,sz_48,zero_48,(oL 3),eInt]) (by decide) (regW.of ?_)
 simp only [seval,EMB,w_none,w_eq,und_31,sz_48,zero_48,(oL 3),eInt]
 refine mU e (.sR fun e h=>?_) h
 simp only [seval,EMB,ag_24,sz_24,zero_24,eInt]
 refine mU e (.seqK (.sR fun e h=>?_)) h
 simp only [seval,EMB,und_22,eInt]
 refine mU e (Mir.join (fun v5 : (List ApiBlock) × ApiPos=>([U,U,U,U,U,U,U,U,U,U,.own 0 (List.map encApiBlock v5.1)] ++ us 90)) (fun v5=>⟨[[.d (.int .i64 a1.X),.d (.int .i64 a1.Y),.d (.int .i64 a1.Z)],[.d (.int .i64 a2.Work),.d (.bool a2.Compress),.d (.int .i64 a2.Numbers),.d (.int .i64 a2.Fold)],[.d (.int .i64 v5.2.X),.d (.int .i64 v5.2.Y),.d (.int .i64 v5.2.Z)]],[(48,v5.1.length)]⟩) (fun _=>rfl) ?_ ?_) h
 refine .block (.guard fun q1=>Mir.range (fun (i1 : Nat) (v2 : (List ApiBlock) × ApiPos)=>([U,U,U,U,U,U,U,U,U,U,.own 0 (List.map encApiBlock v2.1),.ptr 2 0,U,U,U,U,U,U,U,U,U,U,U,U,U,U,U,U,U,U,U,U,U,U,U,U,U,U,U,U,U,U,U,U,U,U,U,U,U,U,.d (.list (List.map encApiStage a0)),.d (.int .i64 (a0.length : Int)),.d (.int .i64 (i1 : Int))] ++ us 48)) (fun i1 v2=>⟨[[.d (.int .i64 a1.X),.d (.int .i64 a1.Y),.d (.int .i64 a1.Z)],[.d (.int .i64 a2.Work),.d (.bool a2.Compress),.d (.int .i64 a2.Numbers),.d (.int .i64 a2.Fold)],[.d (.int .i64 v2.2.X),.d (.int .i64 v2.2.Y),.d (.int .i64 v2.2.Z)]],[(48,v2.1.length)]⟩) q1 (fun _ _=>rfl) (by simp only [seval,FMB,eInt,zNI]) (by simp only [seval,FMB,eInt,zNI]) ?_ ?_)
 intro i1 e1 v2 q2
 refine .sR fun e h=>?_
 simp only [seval,EMB,q2,eInt]
 refine mU e (.seqK (.condT rfl (.skip (Mir.toK (.seqK (Mir.join (fun v4 : (List ApiBlock) × ApiPos=>([U,U,U,U,U,U,U,U,U,U,.own 0 (List.map encApiBlock v4.1),.ptr 2 0,U,U,U,U,U,U,U,U,U,U,U,U,U,U,U,U,U,U,U,U,U,U,U,U,U,U,U,U,U,U,U,U,U,U,U,U,U,U,.d (.list (List.map encApiStage a0)),.d (.int .i64 (a0.length : Int)),.d (.int .i64 (i1 : Int))] ++ us 48)) (fun v4=>⟨[[.d (.int .i64 a1.X),.d (.int .i64 a1.Y),.d (.int .i64 a1.Z)],[.d (.int .i64 a2.Work),.d (.bool a2.Compress),.d (.int .i64 a2.Numbers),.d (.int .i64 a2.Fold)],[.d (.int .i64 v4.2.X),.d (.int .i64 v4.2.Y),.d (.int .i64 v4.2.Z)]],[(48,v4.1.length)]⟩) (fun _=>rfl) ?_ ?_)))))) h
 refine .block (.sR fun e h=>?_)
 simp only [seval,EMB,und_22,sz_60,q2,Int.toNat_natCast,ag_60,zero_60,eInt]
 refine mU e (.seqK (.bind fun y7 h1=>.region fun e h=>?_)) h
 simp only [seval,EMB,fld_60_0,sz_3,ag_3,eInt]
 refine SpecS.by (po_Change_spec h1) (by simp only [seval,FMB,eInt]) ?_
 simp only [seval,EMB,eInt]
 refine mU e (.seqK (.sR fun e h=>?_)) h
 simp only [seval,EMB,eInt]
 refine mU e (.cond rfl (fun h2=>?_) (fun h2=>?_)) h
 refine .sR fun e h=>?_
 simp only [seval,EMB,eInt]
 refine mU e (.ret fun e h=>?_) h
 cases h
 simp only [seval,FMB,eInt,Tryz.results16]
 refine .skip (Mir.toK (.seqK (.guard fun q3=>.region fun e h=>?_)))
 simp only [seval,EMB,app_31,al_ApiBlock,q3,eInt]
 refine mU e (.sR fun e h=>?_) h
 simp only [seval,EMB,fld_60_1,sz_58,ag_58,und_58,eInt]
 refine mU e (.block (.guard fun q4=>Mir.range (fun (i2 : Nat) (v3 : (List ApiBlock) × ApiPos)=>([U,U,U,U,U,U,U,U,U,U,.own 0 (List.map encApiBlock v3.1),.ptr 2 0,U,U,U,U,U,U,U,U,U,U,U,U,U,U,U,U,U,U,U,U,U,U,U,U,U,U,U,U,U,U,U,U,U,U,U,U,U,U,.d (.list (List.map encApiStage a0)),.d (.int .i64 (a0.length : Int)),.d (.int .i64 (i1 : Int)),U,U,U,U,U,U,U,U,U,U,U,U,U,U,U,U,.d (.list (List.map encApiMove e1.Moves)),.d (.int .i64 (e1.Moves.length : Int)),.d (.int .i64 (i2 : Int))] ++ us 29)) (fun i2 v3=>⟨[[.d (.int .i64 a1.X),.d (.int .i64 a1.Y),.d (.int .i64 a1.Z)],[.d (.int .i64 a2.Work),.d (.bool a2.Compress),.d (.int .i64 a2.Numbers),.d (.int .i64 a2.Fold)],[.d (.int .i64 v3.2.X),.d (.int .i64 v3.2.Y),.d (.int .i64 v3.2.Z)],[.d (.int .i64 e1.Tool),.d (.list (List.map encApiMove e1.Moves))]],[(48,v3.1.length)]⟩) q4 (fun _ _=>rfl) (by simp only [seval,FMB,eInt,zNI]) (by simp only [seval,FMB,eInt,zNI]) ?_ ?_)) h
 intro i2 e2 v3 q5
 refine .sR fun e h=>?_
 simp only [seval,EMB,q5,eInt]
 refine mU e (.seqK (.condT rfl (.skip (Mir.toK (.seqK (.block (.sR fun e h=>?_))))))) h
 simp only [seval,EMB,und_58,sz_54,q5,Int.toNat_natCast,ag_54,zero_54,eInt]
 refine mU e (.seqK (.bind fun y8 h3=>.region fun e h=>?_)) h
 simp only [seval,EMB,ag_24,sz_24,ag_54,sz_54,eInt]
 refine SpecS.by (po_Move_spec h3) (by simp only [seval,FMB,eInt]) ?_
 simp only [seval,EMB,zero_48,sz_48,eInt]
 refine mU e (.seqK (.sR fun e h=>?_)) h
 simp only [seval,EMB,eInt]
 refine mU e (.cond rfl (fun h4=>?_) (fun h4=>?_)) h
 refine .sR fun e h=>?_
 simp only [seval,EMB,eInt]
 refine mU e (.ret fun e h=>?_) h
 cases h
 simp only [seval,FMB,eInt,Tryz.results16]
 refine .skip (Mir.toK (.guard fun q6=>.regionD [] (by kernel_rfl) fun e h=>?_))
 simp only [seval,EMB,SB,ag_48,sz_48,und_31,zero_48,(oL 3),app_31,al_ApiBlock,q6,fld_54_1,sz_24,ag_24,eInt]
 refine mU e (.region fun e h=>?_) h
 simp only [seval,EMB,eInt]
 cases h
 simp only [seval,FMB,eInt,Tryz.results16,q5]
 intro v3 q7
 refine .sR fun e h=>?_
 simp only [seval,EMB,q7,eInt]
 refine mU e (.seqK (.condF rfl (.exit fun e h=>?_))) h
 cases h
 simp only [seval,FMB,eInt,Tryz.results16]
 intro v4
 refine Mir.toK (.region fun e h=>?_)
 simp only [seval,EMB,eInt]
 cases h
 simp only [seval,FMB,eInt,Tryz.results16,q2]
 intro v2 q8
 refine .sR fun e h=>?_
 simp only [seval,EMB,q8,eInt]
 refine mU e (.seqK (.condF rfl (.exit fun e h=>?_))) h
 cases h
 simp only [seval,FMB,eInt,Tryz.results16]
 intro v5
 refine Mir.toK (.seqK (.bind fun y9 h5=>.bind fun y10 h6=>.bind fun y11 h7=>.bind fun y12 h8=>.guard fun q9=>.region fun e h=>?_))
 simp only [seval,EMB,eInt]
 refine SpecS.by (po_whole_spec h5) (by simp only [seval,FMB,eInt]) ?_
 simp only [seval,EMB,und_46,sz_83,zero_83,(oL 2),eInt]
 refine SpecS.byF (po_words_specF h6) (by simp only [seval,FMB,eInt]) ?_
 simp only [seval,EMB,eInt]
 refine SpecS.by (po_whole_spec h7) (by simp only [seval,FMB,eInt]) ?_
 simp only [seval,EMB,und_46,sz_83,zero_83,(oL 2),eInt]
 refine SpecS.byF (po_words_specF h8) (by simp only [seval,FMB,eInt]) ?_
 simp only [seval,EMB,und_31,sz_48,zero_48,(oL 6),app_31,al_ApiBlock,q9,eInt]
 refine mU e (.ret fun e h=>?_) h
 cases h
 simp only [seval,FMB,eInt,Tryz.results16]
def md_New  : Option ModalState := some (ModalState.mk 0 90000 54000 49000 98000 0 0 0)
theorem md_New_spec  {y : ModalState} (h : md_New = some y) : Spec gP 18 [] (.agg [.d (.int .i64 y.Motion),.d (.int .i64 y.Distance),.d (.int .i64 y.Work),.d (.int .i64 y.Length),.d (.int .i64 y.Return),.d (.int .i64 y.Feed),.d (.int .i64 y.Tool),.d (.int .i64 y.Offset)]) := by
 refine spec_mir Tryz.func18 rfl (by kernel_rfl) (by kernel_rfl) (fun y : ModalState=>.agg [.d (.int .i64 y.Motion),.d (.int .i64 y.Distance),.d (.int .i64 y.Work),.d (.int .i64 y.Length),.d (.int .i64 y.Return),.d (.int .i64 y.Feed),.d (.int .i64 y.Tool),.d (.int .i64 y.Offset)]) ?_ h
 unfold md_New
 simp only [List.replicate,List.length,nS,nA,Tryz.ntmps18,SV]
 refine .sR fun e h=>?_
 simp only [seval,EMB,zero_64]
 refine mU e (.sR fun e h=>?_) h
 simp only [seval,EMB,zero_64,pl_64,sz_64]
 refine mU e (.ret fun e h=>?_) h
 cases h
 simp only [seval,FMB,Tryz.results18,ag_64,sz_64]
def md_Check (a0 : ApiBlock) : Option Int := bindX (guardO (okIdx a0.Words) ( rangeX (fun (i1 : Nat) (e1 : ApiWord) (v1 : (List (Int × Bool)) × (List (Int × Bool)))=>bindX (bindX (if (e1.Letter == 71) = true then bindO (md_Group e1.Value) fun (y1 : Int)=>bindO (if (y1 == 0) = true then some true else some ((mget v1.2 y1).getD false)) fun (v2 : Bool)=>if v2 = true then some (.ret (.ret (.ret (.ret 1)))) else some (.ret (.go (v1.1,mput v1.2 y1 true))) else if (e1.Letter == 70) = true then if (decide (e1.Value < 0)) = true then some (.ret (.ret (.ret (.ret 1)))) else some (.go ()) else bindO (if (e1.Letter == 84) = true then some (e1.Letter == 84) else some (e1.Letter == 72)) fun (v3 : Bool)=>if v3 = true then if ((decide (e1.Value < 0)) || ((Int.tmod e1.Value 1000) != 0)) = true then some (.ret (.ret (.ret (.ret 1)))) else some (.go ()) else some (.go ())) fun (v4 : Unit)=>if ((mget v1.1 e1.Letter).getD false) = true then some (.ret (.ret (.ret 1))) else some (.go (mput v1.1 e1.Letter true,v1.2))) fun (v5 : (List (Int × Bool)) × (List (Int × Bool)))=>some (.go (v5.1,v5.2))) (fun (v1 : (List (Int × Bool)) × (List (Int × Bool)))=>some (.go (v1.1,v1.2))) a0.Words 0 ([],[]))) fun (v6 : (List (Int × Bool)) × (List (Int × Bool)))=>some 0
theorem md_Check_spec {a0 : ApiBlock} {y : Int} (h : md_Check a0 = some y) : Spec gP 73 [.agg [.d (.bool a0.Skip),.d (.list (List.map encApiWord a0.Words)),.d (.str a0.Comment)]] (.d (.int .i64 y)) := by
 refine spec_mir Tryz.func73 rfl (by kernel_rfl) (by kernel_rfl) (fun y : Int=>.d (.int .i64 y)) ?_ h
 unfold md_Check
 simp only [List.replicate,List.length,nS,nA,Tryz.ntmps73,SV]
 refine .sR fun e h=>?_
 simp only [seval,EMB]
 refine mU e (.seqK (.regionW fun e h=>regW.alt 0 rfl ?_)) h
 simp only [seval,EMB,w_none,w_eq]
 refine alt_makeMap .u8 (regW.of ?_)
 simp only [seval,EMB,w_none,w_eq,xMN]
 refine mU e (.seqK (.regionW fun e h=>regW.alt 0 rfl ?_)) h
 simp only [seval,EMB,w_none,w_eq]
 refine alt_makeMap .i64 (regW.of ?_)
 simp only [seval,EMB,w_none,w_eq,xMN]
 refine mU e (.seqK (.sR fun e h=>?_)) h
 simp only [seval,EMB,fld_48_1,sz_46,ag_46,und_46]
 refine mU e (Mir.join (fun v6 : (List (Int × Bool)) × (List (Int × Bool))=>(us 58)) (fun v6=>⟨[[.d (.bool a0.Skip),.d (.list (List.map encApiWord a0.Words)),.d (.str a0.Comment)],[.mapc .u8 (List.map (ekv evB) v6.1)],[.mapc .i64 (List.map (ekv evB) v6.2)]],[]⟩) (fun _=>rfl) ?_ ?_) h
 refine .block (.guard fun q1=>Mir.range (fun (i1 : Nat) (v1 : (List (Int × Bool)) × (List (Int × Bool)))=>([U,U,U,.mp 1,.mp 2,U,U,U,U,U,U,.d (.list (List.map encApiWord a0.Words)),.d (.int .i64 (a0.Words.length : Int)),.d (.int .i64 (i1 : Int))] ++ us 44)) (fun i1 v1=>⟨[[.d (.bool a0.Skip),.d (.list (List.map encApiWord a0.Words)),.d (.str a0.Comment)],[.mapc .u8 (List.map (ekv evB) v1.1)],[.mapc .i64 (List.map (ekv evB) v1.2)]],[]⟩) q1 (fun _ _=>rfl) (by simp only [seval,FMB,zNI]) (by simp only [seval,FMB,zNI]) ?_ ?_)
 intro i1 e1 v1 q2
 refine .sR fun e h=>?_
 simp only [seval,EMB,q2]
 refine mU e (.seqK (.condT rfl (.skip (Mir.toK (.seqK (Mir.join (fun v5 : (List (Int × Bool)) × (List (Int × Bool))=>([U,U,U,.mp 1,.mp 2,U,U,U,U,U,U,.d (.list (List.map encApiWord a0.Words)),.d (.int .i64 (a0.Words.length : Int)),.d (.int .i64 (i1 : Int))] ++ us 44)) (fun v5=>⟨[[.d (.bool a0.Skip),.d (.list (List.map encApiWord a0.Words)),.d (.str a0.Comment)],[.mapc .u8 (List.map (ekv evB) v5.1)],[.mapc .i64 (List.map (ekv evB) v5.2)]],[]⟩) (fun _=>rfl) ?_ ?_)))))) h
 refine .block (.sR fun e h=>?_)
 simp only [seval,EMB,und_46,sz_83,q2,Int.toNat_natCast,ag_83,zero_83]
 refine mU e (.seqK (.sR fun e h=>?_)) h
 simp only [seval,EMB,fld_83_0,sz_5,ag_5]
 refine mU e (Mir.join (fun v4 : Unit=>([U,U,U,.mp 1,.mp 2,U,.ptr 3 0,U,U,U,U,.d (.list (List.map encApiWord a0.Words)),.d (.int .i64 (a0.Words.length : Int)),.d (.int .i64 (i1 : Int))] ++ us 44)) (fun v4=>⟨[[.d (.bool a0.Skip),.d (.list (List.map encApiWord a0.Words)),.d (.str a0.Comment)],[.mapc .u8 (List.map (ekv evB) v1.1)],[.mapc .i64 (List.map (ekv evB) v1.2)],[.d (.int .u8 e1.Letter),.d (.int .i64 e1.Value)]],[]⟩) (fun _=>rfl) ?_ ?_) h
 refine .block (.sR fun e h=>?_)
 simp only [seval,EMB]
 refine mU e (.cond rfl (fun h1=>?_) (fun h1=>?_)) h
 refine .seqK (.bind fun y1 h2=>.region fun e h=>?_)
 simp only [seval,EMB,fld_83_1,sz_2,ag_2]
 refine SpecS.by (md_Group_spec h2) (by simp only [seval,FMB]) ?_
 simp only [seval,EMB]
 refine mU e (.seqK (.seqK (Mir.joinO (fun v2 : Bool=>([U,U,U,.mp 1,.mp 2,U,U,.d (.int .i64 y1),U,U,U,.d (.list (List.map encApiWord a0.Words)),.d (.int .i64 (a0.Words.length : Int)),.d (.int .i64 (i1 : Int)),U,U,U,U,U,U,U,U,U,U,U,U,U,U,U,U,.d (.bool v2)] ++ us 27)) (fun v2=>⟨[[.d (.bool a0.Skip),.d (.list (List.map encApiWord a0.Words)),.d (.str a0.Comment)],[.mapc .u8 (List.map (ekv evB) v1.1)],[.mapc .i64 (List.map (ekv evB) v1.2)],[.d (.int .u8 e1.Letter),.d (.int .i64 e1.Value)]],[]⟩) (fun _=>rfl) ?_ ?_))) h
 refine .ite (fun h3=>?_) (fun h3=>?_)
 refine .region fun e h=>?_
 simp only [seval,EMB,h3]
 cases h
 simp only [seval,FMB,h3]
 refine .regionW fun e h=>regW.alt 5 rfl ?_
 simp only [seval,EMB,w_none,w_eq,h3]
 refine alt_lookup rfl rfl rfl (by simp only [mapT,und_152,und_3]) zero_4 rfl (regW.of ?_)
 simp only [seval,EMB,w_none,w_eq,mg_B,h3]
 cases h
 simp only [seval,FMB,h3]
 intro v2
 refine Mir.toK (.cond rfl (fun h4=>?_) (fun h4=>?_))
 refine .sR fun e h=>?_
 simp only [seval,EMB]
 refine mU e (.ret fun e h=>?_) h
 cases h
 simp only [seval,FMB,Tryz.results73]
 refine .skip (Mir.toK (.seqK (.regionW fun e h=>regW.alt 2 rfl ?_)))
 simp only [seval,EMB,w_none,w_eq]
 refine alt_mapUpdate (et := 4) rfl rfl rfl rfl (by simp only [mapT,und_152,und_3]) (regW.of ?_)
 simp only [seval,EMB,w_none,w_eq,mp_B]
 refine mU e (.exit fun e h=>?_) h
 cases h
 simp only [seval,FMB,Tryz.results73]
 refine .sR fun e h=>?_
 simp only [seval,EMB]
 refine mU e (.cond rfl (fun h5=>?_) (fun h5=>?_)) h
 refine .sR fun e h=>?_
 simp only [seval,EMB,fld_83_1,sz_2,ag_2]
 refine mU e (.cond rfl (fun h6=>?_) (fun h6=>?_)) h
 refine .sR fun e h=>?_
 simp only [seval,EMB]
 refine mU e (.ret fun e h=>?_) h
 cases h
 simp only [seval,FMB,Tryz.results73]
 refine .skip fun e h=>?_
 cases h
 simp only [seval,FMB,Tryz.results73]
 refine .seqK (.sR fun e h=>?_)
 simp only [seval,EMB]
 refine mU e (Mir.joinO (fun v3 : Bool=>([U,U,U,.mp 1,.mp 2,U,.ptr 3 0,U,U,U,U,.d (.list (List.map encApiWord a0.Words)),.d (.int .i64 (a0.Words.length : Int)),.d (.int .i64 (i1 : Int)),U,U,U,U,U,U,U,U,U,U,U,U,U,U,U,U,U,U,U,U,U,U,U,U,.d (.bool v3)] ++ us 19)) (fun v3=>⟨[[.d (.bool a0.Skip),.d (.list (List.map encApiWord a0.Words)),.d (.str a0.Comment)],[.mapc .u8 (List.map (ekv evB) v1.1)],[.mapc .i64 (List.map (ekv evB) v1.2)],[.d (.int .u8 e1.Letter),.d (.int .i64 e1.Value)]],[]⟩) (fun _=>rfl) ?_ ?_) h
 refine .cond rfl (fun h7=>?_) (fun h7=>?_)
 refine .skip fun e h=>?_
 cases h
 simp only [seval,FMB,Tryz.results73]
 refine .region fun e h=>?_
 simp only [seval,EMB]
 cases h
 simp only [seval,FMB,Tryz.results73]
 intro v3
 refine Mir.toK (.cond rfl (fun h8=>?_) (fun h8=>?_))
 refine .seqK (.joinV ([U,U,U,.mp 1,.mp 2,U,.ptr 3 0,U,U,U,U,.d (.list (List.map encApiWord a0.Words)),.d (.int .i64 (a0.Words.length : Int)),.d (.int .i64 (i1 : Int)),U,U,U,U,U,U,U,U,U,U,U,U,U,U,U,U,U,U,U,U,U,U,U,U,U,U,U,U,U,U,U,U,U,U,U,.d (.bool ((decide (e1.Value < 0)) || ((Int.tmod e1.Value 1000) != 0)))] ++ us 8) ⟨[[.d (.bool a0.Skip),.d (.list (List.map encApiWord a0.Words)),.d (.str a0.Comment)],[.mapc .u8 (List.map (ekv evB) v1.1)],[.mapc .i64 (List.map (ekv evB) v1.2)],[.d (.int .u8 e1.Letter),.d (.int .i64 e1.Value)]],[]⟩ rfl ?_ ?_)
 refine SWs.region ?_
 rcases Bool.eq_false_or_eq_true (decide (e1.Value < 0)) with h9 | h9
 simp only [seval,EMB,SL,PB,fld_83_1,sz_2,ag_2,h9]
 simp only [seval,EMB,SL,PB,fld_83_1,sz_2,ag_2,h9]
 refine Mir.toK (.cond rfl (fun h10=>?_) (fun h10=>?_))
 refine .sR fun e h=>?_
 simp only [seval,EMB]
 refine mU e (.ret fun e h=>?_) h
 cases h
 simp only [seval,FMB,Tryz.results73]
 refine .skip fun e h=>?_
 cases h
 simp only [seval,FMB,Tryz.results73]
 refine .skip fun e h=>?_
 cases h
 simp only [seval,FMB,Tryz.results73]
 intro v4
 refine Mir.toK (.seqK (.seqK (.regionW fun e h=>regW.alt 3 rfl ?_)))
 simp only [seval,EMB,w_none,w_eq,fld_83_0,sz_5,ag_5]
 refine alt_lookup rfl rfl rfl (by simp only [mapT,und_151,und_5]) zero_4 rfl (regW.of ?_)
 simp only [seval,EMB,w_none,w_eq,mg_B]
 refine mU e (.cond rfl (fun h11=>?_) (fun h11=>?_)) h
 refine .sR fun e h=>?_
 simp only [seval,EMB]
 refine mU e (.ret fun e h=>?_) h
 cases h
 simp only [seval,FMB,Tryz.results73]
 refine .skip (Mir.toK (.regionW fun e h=>regW.alt 3 rfl ?_))
 simp only [seval,EMB,w_none,w_eq,fld_83_0,sz_5,ag_5]
 refine alt_mapUpdate (et := 4) rfl rfl rfl rfl (by simp only [mapT,und_151,und_5]) (regW.of ?_)
 simp only [seval,EMB,w_none,w_eq,mp_B]
 cases h
 simp only [seval,FMB,Tryz.results73]
 intro v5
 refine Mir.toK (.region fun e h=>?_)
 simp only [seval,EMB]
 cases h
 simp only [seval,FMB,Tryz.results73,q2]
 intro v1 q3
 refine .sR fun e h=>?_
 simp only [seval,EMB,q3]
 refine mU e (.seqK (.condF rfl (.exit fun e h=>?_))) h
 cases h
 simp only [seval,FMB,Tryz.results73]
 intro v6
 refine Mir.toK (.sR fun e h=>?_)
 simp only [seval,EMB]
 refine mU e (.ret fun e h=>?_) h
 cases h
 simp only [seval,FMB,Tryz.results73]
def md_put (a0 : ModalState) (a1 : ApiWord) : Option ModalState := bindO (if (a1.Letter == 71) = true then bindO (bindO (md_Group a1.Value) fun (y1 : Int)=>guardO (decide (0 ≤ (IntKind.i64.wrap (y1 - 1)) ∧ (IntKind.i64.wrap (y1 - 1)) < 5)) ( if ((IntKind.i64.wrap (y1 - 1)) == 0) = true then some (ModalState.mk a1.Value a0.Distance a0.Work a0.Length a0.Return a0.Feed a0.Tool a0.Offset) else if ((IntKind.i64.wrap (y1 - 1)) == 1) = true then some (ModalState.mk a0.Motion a1.Value a0.Work a0.Length a0.Return a0.Feed a0.Tool a0.Offset) else if ((IntKind.i64.wrap (y1 - 1)) == 2) = true then some (ModalState.mk a0.Motion a0.Distance a1.Value a0.Length a0.Return a0.Feed a0.Tool a0.Offset) else if ((IntKind.i64.wrap (y1 - 1)) == 3) = true then some (ModalState.mk a0.Motion a0.Distance a0.Work a1.Value a0.Return a0.Feed a0.Tool a0.Offset) else some (ModalState.mk a0.Motion a0.Distance a0.Work a0.Length a1.Value a0.Feed a0.Tool a0.Offset))) fun (v1 : ModalState)=>some v1 else if (a1.Letter == 70) = true then some (ModalState.mk a0.Motion a0.Distance a0.Work a0.Length a0.Return a1.Value a0.Tool a0.Offset) else if (a1.Letter == 84) = true then some (ModalState.mk a0.Motion a0.Distance a0.Work a0.Length a0.Return a0.Feed a1.Value a0.Offset) else if (a1.Letter == 72) = true then some (ModalState.mk a0.Motion a0.Distance a0.Work a0.Length a0.Return a0.Feed a0.Tool a1.Value) else some a0) fun (v2 : ModalState)=>some v2
theorem md_put_spec {a0 : ModalState} {a1 : ApiWord} {y : ModalState} (h : md_put a0 a1 = some y) : Spec gP 74 [.agg [.d (.int .i64 a0.Motion),.d (.int .i64 a0.Distance),.d (.int .i64 a0.Work),.d (.int .i64 a0.Length),.d (.int .i64 a0.Return),.d (.int .i64 a0.Feed),.d (.int .i64 a0.Tool),.d (.int .i64 a0.Offset)],.agg [.d (.int .u8 a1.Letter),.d (.int .i64 a1.Value)]] (.agg [.d (.int .i64 y.Motion),.d (.int .i64 y.Distance),.d (.int .i64 y.Work),.d (.int .i64 y.Length),.d (.int .i64 y.Return),.d (.int .i64 y.Feed),.d (.int .i64 y.Tool),.d (.int .i64 y.Offset)]) := by
 refine spec_mir Tryz.func74 rfl (by kernel_rfl) (by kernel_rfl) (fun y : ModalState=>.agg [.d (.int .i64 y.Motion),.d (.int .i64 y.Distance),.d (.int .i64 y.Work),.d (.int .i64 y.Length),.d (.int .i64 y.Return),.d (.int .i64 y.Feed),.d (.int .i64 y.Tool),.d (.int .i64 y.Offset)]) ?_ h
 unfold md_put
 simp only [List.replicate,List.length,nS,nA,Tryz.ntmps74,SV]
 refine .sR fun e h=>?_
 simp only [seval,EMB,zero_64]
 refine mU e (.seqK (.sR fun e h=>?_)) h
 simp only [seval,EMB,fld_83_0,sz_5,ag_5]
 refine mU e (Mir.joinO (fun v2 : ModalState=>([U,U,.ptr 0 0,U,.ptr 2 0] ++ us 37)) (fun v2=>⟨[[.d (.int .i64 v2.Motion),.d (.int .i64 v2.Distance),.d (.int .i64 v2.Work),.d (.int .i64 v2.Length),.d (.int .i64 v2.Return),.d (.int .i64 v2.Feed),.d (.int .i64 v2.Tool),.d (.int .i64 v2.Offset)],[.d (.int .u8 a1.Letter),.d (.int .i64 a1.Value)],[.d (.int .i64 0),.d (.int .i64 0),.d (.int .i64 0),.d (.int .i64 0),.d (.int .i64 0),.d (.int .i64 0),.d (.int .i64 0),.d (.int .i64 0)]],[]⟩) (fun _=>rfl) ?_ ?_) h
 refine .block (.sR fun e h=>?_)
 simp only [seval,EMB]
 refine mU e (.cond rfl (fun hb12=>?_) (fun hb12=>?_)) h
 refine .sR fun e h=>?_
 simp only [seval,EMB,fld_64_0,sz_2,fld_64_1,fld_64_2,fld_64_3,fld_64_4,und_154,sz_153,zero_153,(oL 5)]
 refine mU e (Mir.joinO (fun v1 : ModalState=>([U,U,.ptr 0 0,U,.ptr 2 0] ++ us 37)) (fun v1=>⟨[[.d (.int .i64 v1.Motion),.d (.int .i64 v1.Distance),.d (.int .i64 v1.Work),.d (.int .i64 v1.Length),.d (.int .i64 v1.Return),.d (.int .i64 v1.Feed),.d (.int .i64 v1.Tool),.d (.int .i64 v1.Offset)],[.d (.int .u8 a1.Letter),.d (.int .i64 a1.Value)],[.d (.int .i64 0),.d (.int .i64 0),.d (.int .i64 0),.d (.int .i64 0),.d (.int .i64 0),.d (.int .i64 0),.d (.int .i64 0),.d (.int .i64 0)],[.ptr 0 0,.ptr 0 1,.ptr 0 2,.ptr 0 3,.ptr 0 4]],[]⟩) (fun _=>rfl) ?_ ?_) h
 refine .bind fun y1 hy13=>.guard fun qi14=>.ite (fun hb15=>?_) (fun hb15=>?_)
 refine .regionD [] (by kernel_rfl) fun e h=>?_
 simp only [seval,EMB,SB,fld_83_1,sz_2,ag_2,hb15]
 refine Spec.by (md_Group_spec hy13) (by simp only [seval,FMB,hb15]) ?_
 simp only [seval,EMB,SB,und_154,(eq_of_beq hb15),sz_153,ag_153,fld_83_1,sz_2,ag_2,hb15]
 cases h
 simp only [seval,FMB,hb15]
 refine .ite (fun hb16=>?_) (fun hb16=>?_)
 refine .regionD [] (by kernel_rfl) fun e h=>?_
 simp only [seval,EMB,SB,fld_83_1,sz_2,ag_2,hb15,hb16]
 refine Spec.by (md_Group_spec hy13) (by simp only [seval,FMB,hb15,hb16]) ?_
 simp only [seval,EMB,SB,und_154,(eq_of_beq hb16),sz_153,ag_153,fld_83_1,sz_2,ag_2,hb15,hb16]
 cases h
 simp only [seval,FMB,hb15,hb16]
 refine .ite (fun hb17=>?_) (fun hb17=>?_)
 refine .regionD [] (by kernel_rfl) fun e h=>?_
 simp only [seval,EMB,SB,fld_83_1,sz_2,ag_2,hb15,hb16,hb17]
 refine Spec.by (md_Group_spec hy13) (by simp only [seval,FMB,hb15,hb16,hb17]) ?_
 simp only [seval,EMB,SB,und_154,(eq_of_beq hb17),sz_153,ag_153,fld_83_1,sz_2,ag_2,hb15,hb16,hb17]
 cases h
 simp only [seval,FMB,hb15,hb16,hb17]
 refine .ite (fun hb18=>?_) (fun hb18=>?_)
 refine .regionD [] (by kernel_rfl) fun e h=>?_
 simp only [seval,EMB,SB,fld_83_1,sz_2,ag_2,hb15,hb16,hb17,hb18]
 refine Spec.by (md_Group_spec hy13) (by simp only [seval,FMB,hb15,hb16,hb17,hb18]) ?_
 simp only [seval,EMB,SB,und_154,(eq_of_beq hb18),sz_153,ag_153,fld_83_1,sz_2,ag_2,hb15,hb16,hb17,hb18]
 cases h
 simp only [seval,FMB,hb15,hb16,hb17,hb18]
 have hz19 : IntKind.i64.wrap (y1 - 1) = 4 := by have h0 := of_decide_eq_true qi14; have h1 := ne_of_beq_false hb15; have h2 := ne_of_beq_false hb16; have h3 := ne_of_beq_false hb17; have h4 := ne_of_beq_false hb18; omega
 refine .regionD [] (by kernel_rfl) fun e h=>?_
 simp only [seval,EMB,SB,fld_83_1,sz_2,ag_2,hb15,hb16,hb17,hb18]
 refine Spec.by (md_Group_spec hy13) (by simp only [seval,FMB,hb15,hb16,hb17,hb18]) ?_
 simp only [seval,EMB,SB,und_154,hz19,sz_153,ag_153,fld_83_1,sz_2,ag_2,hb15,hb16,hb17,hb18]
 cases h
 simp only [seval,FMB,hb15,hb16,hb17,hb18]
 intro v1
 intro e h
 cases h
 simp only [seval,FMB,Tryz.results74,ag_64,sz_64]
 refine .sR fun e h=>?_
 simp only [seval,EMB]
 refine mU e (.cond rfl (fun hb20=>?_) (fun hb20=>?_)) h
 refine .region fun e h=>?_
 simp only [seval,EMB,fld_83_1,sz_2,ag_2,fld_64_5]
 cases h
 simp only [seval,FMB,Tryz.results74,ag_64,sz_64]
 refine .sR fun e h=>?_
 simp only [seval,EMB]
 refine mU e (.cond rfl (fun hb21=>?_) (fun hb21=>?_)) h
 refine .region fun e h=>?_
 simp only [seval,EMB,fld_83_1,sz_2,ag_2,fld_64_6]
 cases h
 simp only [seval,FMB,Tryz.results74,ag_64,sz_64]
 refine .sR fun e h=>?_
 simp only [seval,EMB]
 refine mU e (.cond rfl (fun hb22=>?_) (fun hb22=>?_)) h
 refine .region fun e h=>?_
 simp only [seval,EMB,fld_83_1,sz_2,ag_2,fld_64_7]
 cases h
 simp only [seval,FMB,Tryz.results74,ag_64,sz_64]
 refine .skip fun e h=>?_
 cases h
 simp only [seval,FMB,Tryz.results74,ag_64,sz_64]
 intro v2
 refine Mir.toK (.sR fun e h=>?_)
 simp only [seval,EMB,ag_64,sz_64]
 refine mU e (.ret fun e h=>?_) h
 cases h
 simp only [seval,FMB,Tryz.results74,ag_64,sz_64]
def md_Apply (a0 : ModalState) (a1 : ApiBlock) : Option (ModalState × Int) := bindO (md_Check a1) fun (y1 : Int)=>if (y1 != 0) = true then some (ModalState.mk 0 0 0 0 0 0 0 0,y1) else bindO (guardO (okIdx a1.Words) ( rangeX (fun (i1 : Nat) (e1 : ApiWord) (v1 : ModalState)=>bindO (md_put v1 e1) fun (y2 : ModalState)=>some (.go y2)) (fun (v1 : ModalState)=>some v1) a1.Words 0 a0)) fun (v2 : ModalState)=>some (v2,0)
theorem md_Apply_spec {a0 : ModalState} {a1 : ApiBlock} {y : ModalState × Int} (h : md_Apply a0 a1 = some y) : Spec gP 43 [.agg [.d (.int .i64 a0.Motion),.d (.int .i64 a0.Distance),.d (.int .i64 a0.Work),.d (.int .i64 a0.Length),.d (.int .i64 a0.Return),.d (.int .i64 a0.Feed),.d (.int .i64 a0.Tool),.d (.int .i64 a0.Offset)],.agg [.d (.bool a1.Skip),.d (.list (List.map encApiWord a1.Words)),.d (.str a1.Comment)]] (.tuple [.agg [.d (.int .i64 y.1.Motion),.d (.int .i64 y.1.Distance),.d (.int .i64 y.1.Work),.d (.int .i64 y.1.Length),.d (.int .i64 y.1.Return),.d (.int .i64 y.1.Feed),.d (.int .i64 y.1.Tool),.d (.int .i64 y.1.Offset)],.d (.int .i64 y.2)]) := by
 refine spec_mir Tryz.func43 rfl (by kernel_rfl) (by kernel_rfl) (fun y : ModalState × Int=>.tuple [.agg [.d (.int .i64 y.1.Motion),.d (.int .i64 y.1.Distance),.d (.int .i64 y.1.Work),.d (.int .i64 y.1.Length),.d (.int .i64 y.1.Return),.d (.int .i64 y.1.Feed),.d (.int .i64 y.1.Tool),.d (.int .i64 y.1.Offset)],.d (.int .i64 y.2)]) ?_ h
 unfold md_Apply
 simp only [List.replicate,List.length,nS,nA,Tryz.ntmps43,SV]
 refine .sR fun e h=>?_
 simp only [seval,EMB,zero_64]
 refine mU e (.seqK (.seqK (.bind fun y1 hy1=>.region fun e h=>?_))) h
 simp only [seval,EMB,ag_48,sz_48]
 refine SpecS.by (md_Check_spec hy1) (by simp only [seval,FMB]) ?_
 simp only [seval,EMB]
 refine mU e (.sR fun e h=>?_) h
 simp only [seval,EMB]
 refine mU e (.cond rfl (fun hb3=>?_) (fun hb3=>?_)) h
 refine .sR fun e h=>?_
 simp only [seval,EMB,zero_64,pl_64,sz_64]
 refine mU e (.ret fun e h=>?_) h
 cases h
 simp only [seval,FMB,Tryz.results43,ag_64,sz_64]
 refine .skip (Mir.toK (.seqK (.sR fun e h=>?_)))
 simp only [seval,EMB,fld_48_1,sz_46,ag_46,und_46]
 refine mU e (Mir.joinO (fun v2 : ModalState=>([U,U,.ptr 0 0,U,.ptr 2 0] ++ us 22)) (fun v2=>⟨[[.d (.int .i64 v2.Motion),.d (.int .i64 v2.Distance),.d (.int .i64 v2.Work),.d (.int .i64 v2.Length),.d (.int .i64 v2.Return),.d (.int .i64 v2.Feed),.d (.int .i64 v2.Tool),.d (.int .i64 v2.Offset)],[.d (.bool a1.Skip),.d (.list (List.map encApiWord a1.Words)),.d (.str a1.Comment)],[.d (.int .i64 0),.d (.int .i64 0),.d (.int .i64 0),.d (.int .i64 0),.d (.int .i64 0),.d (.int .i64 0),.d (.int .i64 0),.d (.int .i64 0)]],[]⟩) (fun _=>rfl) ?_ ?_) h
 refine .block (.guard fun qg47=>Mir.range (fun (i1 : Nat) (v1 : ModalState)=>([U,U,.ptr 0 0,U,.ptr 2 0,U,U,U,U,U,U,U,U,U,U,U,.d (.list (List.map encApiWord a1.Words)),.d (.int .i64 (a1.Words.length : Int)),.d (.int .i64 (i1 : Int))] ++ us 8)) (fun i1 v1=>⟨[[.d (.int .i64 v1.Motion),.d (.int .i64 v1.Distance),.d (.int .i64 v1.Work),.d (.int .i64 v1.Length),.d (.int .i64 v1.Return),.d (.int .i64 v1.Feed),.d (.int .i64 v1.Tool),.d (.int .i64 v1.Offset)],[.d (.bool a1.Skip),.d (.list (List.map encApiWord a1.Words)),.d (.str a1.Comment)],[.d (.int .i64 0),.d (.int .i64 0),.d (.int .i64 0),.d (.int .i64 0),.d (.int .i64 0),.d (.int .i64 0),.d (.int .i64 0),.d (.int .i64 0)]],[]⟩) qg47 (fun _ _=>rfl) (by simp only [seval,FMB,zNI]) (by simp only [seval,FMB,zNI]) ?_ ?_)
 intro i1 e1 v1 qr45
 refine .sR fun e h=>?_
 simp only [seval,EMB,qr45]
 refine mU e (.seqK (.condT rfl (.skip (Mir.toK (.seqK (.block (.sR fun e h=>?_))))))) h
 simp only [seval,EMB,und_46,sz_83,qr45,Int.toNat_natCast,ag_83,zero_83]
 refine mU e (.bind fun y2 hy49=>.region fun e h=>?_) h
 simp only [seval,EMB,ag_64,sz_64,ag_83,sz_83]
 refine SpecS.by (md_put_spec hy49) (by simp only [seval,FMB]) ?_
 simp only [seval,EMB,sz_64]
 refine mU e (.region fun e h=>?_) h
 simp only [seval,EMB]
 cases h
 simp only [seval,FMB,Tryz.results43,ag_64,sz_64,qr45]
 intro v1 qd46
 refine .sR fun e h=>?_
 simp only [seval,EMB,qd46]
 refine mU e (.seqK (.condF rfl (.exit fun e h=>?_))) h
 cases h
 simp only [seval,FMB,Tryz.results43,ag_64,sz_64]
 intro v2
 refine Mir.toK (.sR fun e h=>?_)
 simp only [seval,EMB,ag_64,sz_64]
 refine mU e (.ret fun e h=>?_) h
 cases h
 simp only [seval,FMB,Tryz.results43,ag_64,sz_64]
def slices_Clone_api_Word_api_Word (a0 : List ApiWord) : Option (List ApiWord) := guardO (okLen a0.length) (some a0)
theorem slices_Clone_api_Word_api_Word_n {c0 : Nat} {y : List ApiWord} (h : (some []) = some y) : Spec gP 33 [.d (.other (.slice none 0 c0))] (.d (.list (List.map encApiWord y))) := by
 refine spec_mir Tryz.func33 rfl (by kernel_rfl) (by kernel_rfl) (fun y : List ApiWord=>.d (.list (List.map encApiWord y))) ?_ h
 simp only [List.replicate,List.length,nS,nA,Tryz.ntmps33,SV]
 refine .sR fun e h=>?_
 simp only [seval,EMB]
 refine mU e (.seqK (.sR fun e h=>?_)) h
 simp only [seval,EMB,und_46]
 refine mU e (.condT rfl (.sR fun e h=>?_)) h
 simp only [seval,EMB]
 refine mU e (.ret fun e h=>?_) h
 cases h
 simp only [seval,FMB,Tryz.results33]
theorem slices_Clone_api_Word_api_Word_o {p0 : Addr} {c0 : Nat} {y : List ApiWord} (h : (some []) = some y) : Spec gP 33 [.d (.other (.slice (some p0) 0 c0))] (.d (.list (List.map encApiWord y))) := by
 refine spec_mir Tryz.func33 rfl (by kernel_rfl) (by kernel_rfl) (fun y : List ApiWord=>.d (.list (List.map encApiWord y))) ?_ h
 simp only [List.replicate,List.length,nS,nA,Tryz.ntmps33,SV]
 refine .sR fun e h=>?_
 simp only [seval,EMB]
 refine mU e (.seqK (.sR fun e h=>?_)) h
 simp only [seval,EMB,und_46]
 refine mU e (.condF rfl (.skip (Mir.toK (.sR fun e h=>?_)))) h
 simp only [seval,EMB,und_46,sz_83,zero_83,(oL 0),app_46,al_ApiWord,List.all_cons,List.all_nil]
 refine mU e (.ret fun e h=>?_) h
 cases h
 simp only [seval,FMB,Tryz.results33]
theorem slices_Clone_api_Word_api_Word_c {x0 : ApiWord} {l0 : List ApiWord} {y : List ApiWord} (h : (guardO (okLen ((x0 :: l0).length)) (   some (x0 :: l0))) = some y) : Spec gP 33 [.d (.list (List.map encApiWord (x0 :: l0)))] (.d (.list (List.map encApiWord y))) := by
 refine spec_mir Tryz.func33 rfl (by kernel_rfl) (by kernel_rfl) (fun y : List ApiWord=>.d (.list (List.map encApiWord y))) ?_ h
 simp only [List.replicate,List.length,nS,nA,Tryz.ntmps33,SV]
 refine .sR fun e h=>?_
 simp only [seval,EMB]
 refine mU e (.seqK (.sR fun e h=>?_)) h
 simp only [seval,EMB,und_46]
 refine mU e (.condF rfl (.skip (Mir.toK (.seqK (.guard fun q1=>.region fun e h=>?_))))) h
 simp only [seval,EMB,und_46,sz_83,zero_83,(oL 0),app_46,al_ApiWord,q1]
 refine mU e (.ret fun e h=>?_) h
 cases h
 simp only [seval,FMB,Tryz.results33]
theorem slices_Clone_api_Word_api_Word_spec {a0 : List ApiWord} {y : List ApiWord} (h : slices_Clone_api_Word_api_Word a0 = some y) : Spec gP 33 [.d (.list (List.map encApiWord a0))] (.d (.list (List.map encApiWord y))) := by
 obtain ⟨hl,h⟩ := guardO_some h
 cases h
 cases a0 with
 | nil =>
  refine Spec.nilcase fun A c=>?_
  cases A with
  | none=>exact slices_Clone_api_Word_api_Word_n rfl
  | some p=>exact slices_Clone_api_Word_api_Word_o rfl
 | cons x l=>exact slices_Clone_api_Word_api_Word_c (by simp only [guardO,hl])
theorem slices_Clone_api_Word_api_Word_Yn {c0 : Nat} {y : List ApiWord} (h : (some []) = some y) : SpecY gP 33 [.d (.other (.slice none 0 c0))] 83 (List.map encApiWord y) := by
 refine specY_mir Tryz.func33 rfl (by kernel_rfl) (by kernel_rfl) (fun y : List ApiWord=>List.map encApiWord y) (sc_map (fun _=>rfl) _) ?_ h
 simp only [List.replicate,List.length,nS,nA,Tryz.ntmps33,SV]
 refine .sR fun e h=>?_
 simp only [seval,EMB]
 refine mU e (.seqK (.sR fun e h=>?_)) h
 simp only [seval,EMB,und_46]
 refine mU e (.condT rfl (.sR fun e h=>?_)) h
 simp only [seval,EMB]
 refine mU e (.ret fun e h=>?_) h
 cases h
 simp only [seval,FMB,Tryz.results33,fy_r,fy_n,yr_o,yr_n]
theorem slices_Clone_api_Word_api_Word_Yo {p0 : Addr} {c0 : Nat} {y : List ApiWord} (h : (some []) = some y) : SpecY gP 33 [.d (.other (.slice (some p0) 0 c0))] 83 (List.map encApiWord y) := by
 refine specY_mir Tryz.func33 rfl (by kernel_rfl) (by kernel_rfl) (fun y : List ApiWord=>List.map encApiWord y) (sc_map (fun _=>rfl) _) ?_ h
 simp only [List.replicate,List.length,nS,nA,Tryz.ntmps33,SV]
 refine .sR fun e h=>?_
 simp only [seval,EMB]
 refine mU e (.seqK (.sR fun e h=>?_)) h
 simp only [seval,EMB,und_46]
 refine mU e (.condF rfl (.skip (Mir.toK (.seqK (.regionW fun e h=>regW.alt 0 rfl ?_))))) h
 simp only [seval,EMB,w_none,w_eq]
 refine alt_emptyOwn app_46 (regW.of ?_)
 simp only [seval,EMB,w_none,w_eq,und_46,sz_83,zero_83,(oL 0),app_46,al_ApiWord]
 refine mU e (.ret fun e h=>?_) h
 cases h
 simp only [seval,FMB,Tryz.results33,fy_r,fy_n,yr_o,yr_n]
theorem slices_Clone_api_Word_api_Word_Yc {x0 : ApiWord} {l0 : List ApiWord} {y : List ApiWord} (h : (guardO (okLen (0 + (x0 :: l0).length)) (   some ([] ++ (x0 :: l0)))) = some y) : SpecY gP 33 [.d (.list (List.map encApiWord (x0 :: l0)))] 83 (List.map encApiWord y) := by
 refine specY_mir Tryz.func33 rfl (by kernel_rfl) (by kernel_rfl) (fun y : List ApiWord=>List.map encApiWord y) (sc_map (fun _=>rfl) _) ?_ h
 simp only [List.replicate,List.length,nS,nA,Tryz.ntmps33,SV]
 refine .sR fun e h=>?_
 simp only [seval,EMB]
 refine mU e (.seqK (.sR fun e h=>?_)) h
 simp only [seval,EMB,und_46]
 refine mU e (.condF rfl (.skip (Mir.toK (.seqK (.guard fun q1=>.regionW fun e h=>regW.alt 0 rfl ?_))))) h
 simp only [seval,EMB,w_none,w_eq]
 refine alt_emptyOwn app_46 (regW.of ?_)
 simp only [seval,EMB,w_none,w_eq,und_46,sz_83,zero_83,(oL 0),app_46,al_ApiWord,q1]
 refine mU e (.ret fun e h=>?_) h
 cases h
 simp only [seval,FMB,Tryz.results33,fy_r,fy_n,yr_o,yr_n]
theorem slices_Clone_api_Word_api_Word_specY {a0 : List ApiWord} {y : List ApiWord} (h : slices_Clone_api_Word_api_Word a0 = some y) : SpecY gP 33 [.d (.list (List.map encApiWord a0))] 83 (List.map encApiWord y) := by
 obtain ⟨hl,h⟩ := guardO_some h
 cases h
 cases a0 with
 | nil =>
  refine SpecY.nilcase fun A c=>?_
  cases A with
  | none=>exact slices_Clone_api_Word_api_Word_Yn rfl
  | some p=>exact slices_Clone_api_Word_api_Word_Yo rfl
 | cons x l=>exact slices_Clone_api_Word_api_Word_Yc (by simp only [guardO,Nat.zero_add,List.nil_append,hl])
def md_idle (a0 : ModalState) (a1 : ApiWord) : Option Bool := bindX (if (a1.Letter == 71) = true then if ((decide (a1.Value ≥ 80000)) && (decide (a1.Value ≤ 83000))) = true then some (.ret false) else some (.go ()) else bindO (if (a1.Letter == 70) = true then some (a1.Letter == 70) else if (a1.Letter == 84) = true then some (a1.Letter == 84) else some (a1.Letter == 72)) fun (v1 : Bool)=>if v1 = true then some (.go ()) else some (.ret false)) fun (v2 : Unit)=>bindO (md_put a0 a1) fun (y1 : ModalState)=>some ((y1.Motion == a0.Motion) && ((y1.Distance == a0.Distance) && ((y1.Work == a0.Work) && ((y1.Length == a0.Length) && ((y1.Return == a0.Return) && ((y1.Feed == a0.Feed) && ((y1.Tool == a0.Tool) && (y1.Offset == a0.Offset))))))))
theorem md_idle_spec {a0 : ModalState} {a1 : ApiWord} {y : Bool} (h : md_idle a0 a1 = some y) : Spec gP 46 [.agg [.d (.int .i64 a0.Motion),.d (.int .i64 a0.Distance),.d (.int .i64 a0.Work),.d (.int .i64 a0.Length),.d (.int .i64 a0.Return),.d (.int .i64 a0.Feed),.d (.int .i64 a0.Tool),.d (.int .i64 a0.Offset)],.agg [.d (.int .u8 a1.Letter),.d (.int .i64 a1.Value)]] (.d (.bool y)) := by
 refine spec_mir Tryz.func46 rfl (by kernel_rfl) (by kernel_rfl) (fun y : Bool=>.d (.bool y)) ?_ h
 unfold md_idle
 simp only [List.replicate,List.length,nS,nA,Tryz.ntmps46,SV]
 refine .sR fun e h=>?_
 simp only [seval,EMB]
 refine mU e (.seqK (.sR fun e h=>?_)) h
 simp only [seval,EMB,fld_83_0,sz_5,ag_5]
 refine mU e (Mir.join (fun v2 : Unit=>([U,U,.ptr 0 0,.ptr 1 0] ++ us 22)) (fun v2=>⟨[[.d (.int .i64 a0.Motion),.d (.int .i64 a0.Distance),.d (.int .i64 a0.Work),.d (.int .i64 a0.Length),.d (.int .i64 a0.Return),.d (.int .i64 a0.Feed),.d (.int .i64 a0.Tool),.d (.int .i64 a0.Offset)],[.d (.int .u8 a1.Letter),.d (.int .i64 a1.Value)]],[]⟩) (fun _=>rfl) ?_ ?_) h
 refine .block (.sR fun e h=>?_)
 simp only [seval,EMB]
 refine mU e (.cond rfl (fun hb9=>?_) (fun hb9=>?_)) h
 refine .seqK (.joinV ([U,U,.ptr 0 0,.ptr 1 0,U,U,U,U,U,U,U,U,U,U,U,U,.d (.bool ((decide (a1.Value ≥ 80000)) && (decide (a1.Value ≤ 83000))))] ++ us 9) ⟨[[.d (.int .i64 a0.Motion),.d (.int .i64 a0.Distance),.d (.int .i64 a0.Work),.d (.int .i64 a0.Length),.d (.int .i64 a0.Return),.d (.int .i64 a0.Feed),.d (.int .i64 a0.Tool),.d (.int .i64 a0.Offset)],[.d (.int .u8 a1.Letter),.d (.int .i64 a1.Value)]],[]⟩ rfl ?_ ?_)
 refine SWs.region ?_
 rcases Bool.eq_false_or_eq_true (decide (a1.Value ≥ 80000)) with hb10 | hb10
 simp only [seval,EMB,SL,PB,fld_83_1,sz_2,ag_2,hb10]
 simp only [seval,EMB,SL,PB,fld_83_1,sz_2,ag_2,hb10]
 refine Mir.toK (.cond rfl (fun hb11=>?_) (fun hb11=>?_))
 refine .sR fun e h=>?_
 simp only [seval,EMB]
 refine mU e (.ret fun e h=>?_) h
 cases h
 simp only [seval,FMB,Tryz.results46]
 refine .skip fun e h=>?_
 cases h
 simp only [seval,FMB,Tryz.results46]
 refine .seqK (.sR fun e h=>?_)
 simp only [seval,EMB]
 refine mU e (Mir.joinO (fun v1 : Bool=>([U,U,.ptr 0 0,.ptr 1 0,U,U,U,U,U,U,U,U,U,U,U,U,U,.d (.bool v1)] ++ us 8)) (fun v1=>⟨[[.d (.int .i64 a0.Motion),.d (.int .i64 a0.Distance),.d (.int .i64 a0.Work),.d (.int .i64 a0.Length),.d (.int .i64 a0.Return),.d (.int .i64 a0.Feed),.d (.int .i64 a0.Tool),.d (.int .i64 a0.Offset)],[.d (.int .u8 a1.Letter),.d (.int .i64 a1.Value)]],[]⟩) (fun _=>rfl) ?_ ?_) h
 refine .cond rfl (fun hb14=>?_) (fun hb14=>?_)
 refine .skip fun e h=>?_
 cases h
 simp only [seval,FMB,Tryz.results46]
 refine .sR fun e h=>?_
 simp only [seval,EMB]
 refine mU e (.cond rfl (fun hb15=>?_) (fun hb15=>?_)) h
 refine .skip fun e h=>?_
 cases h
 simp only [seval,FMB,Tryz.results46]
 refine .region fun e h=>?_
 simp only [seval,EMB]
 cases h
 simp only [seval,FMB,Tryz.results46]
 intro v1
 refine Mir.toK (.cond rfl (fun hb16=>?_) (fun hb16=>?_))
 refine .skip fun e h=>?_
 cases h
 simp only [seval,FMB,Tryz.results46]
 refine .sR fun e h=>?_
 simp only [seval,EMB]
 refine mU e (.ret fun e h=>?_) h
 cases h
 simp only [seval,FMB,Tryz.results46]
 intro v2
 refine Mir.toK (.seqK (.bind fun y1 hy17=>.regionD [] (by kernel_rfl) fun e h=>?_))
 simp only [seval,EMB,SB,ag_64,sz_64,ag_83,sz_83]
 refine Spec.by (md_put_spec hy17) (by simp only [seval,FMB]) ?_
 simp only [seval,EMB,SB,ag_64,sz_64,gE_64]
 refine mU e (.ret fun e h=>?_) h
 cases h
 simp only [seval,FMB,Tryz.results46]
def md_Compress (a0 : ModalState) (a1 : (List ApiBlock)) : Option ((List ApiBlock) × Int) := bindX (guardO (okIdx a1) ( rangeX (fun (i1 : Nat) (e1 : ApiBlock) (v1 : (List ApiBlock) × ModalState)=>bindO (md_Apply v1.2 e1) fun (y1 : ModalState × Int)=>if (y1.2 != 0) = true then some (.ret (.ret ([],y1.2))) else bindO (slices_Clone_api_Word_api_Word e1.Words) fun (y2 : (List ApiWord))=>bindO (bindO (bindX (guardO (okIdx y2) ( rangeX (fun (i2 : Nat) (e2 : ApiWord) (v2 : Unit)=>bindO (gt y2 (i2 : Int)) fun (e3 : ApiWord)=>bindO (bindO (md_idle v1.2 e3) fun (y3 : Bool)=>some y3) fun (v3 : Bool)=>if v3 = true then some (.ret (.ret (i2 : Int))) else some (.go ())) (fun (v2 : Unit)=>some (.go ())) y2 0 ())) fun (v4 : Unit)=>some (-1)) fun (v5 : Int)=>if (v5 == (-1)) = true then some y2 else bindO (loopX (fun (v6 : Int × Int × (List ApiWord))=>if (decide (v6.2.1 < (v6.2.2.length : Int))) = true then bindO (bindO (gt v6.2.2 v6.2.1) fun (e4 : ApiWord)=>bindO (bindO (md_idle v1.2 e4) fun (y4 : Bool)=>some y4) fun (v7 : Bool)=>if (!v7) = true then bindO (gt v6.2.2 v6.1) fun (e5 : ApiWord)=>some (IntKind.i64.wrap (v6.1 + 1),v6.2.2.set (Int.toNat v6.1) e4) else some (v6.1,v6.2.2)) fun (v8 : Int × (List ApiWord))=>some (.go (v8.1,IntKind.i64.wrap (v6.2.1 + 1),v8.2)) else some (.ret (v6.1,v6.2.2))) fuel (v5,IntKind.i64.wrap (v5 + 1),y2)) fun (v9 : Int × (List ApiWord))=>guardO (decide ((0 : Int) ≤ v9.1 ∧ v9.1 ≤ (v9.2.length : Int) ∧ (v9.2.length : Int) ≤ ((v9.2.length : Nat) : Int))) ( guardO (decide ((0 : Int) ≤ (0 : Int) ∧ (0 : Int) ≤ v9.1 ∧ v9.1 ≤ (((v9.2.take (Int.toNat v9.1) ++ List.replicate (v9.2.length - (Int.toNat v9.1)) (ApiWord.mk 0 0) ++ v9.2.drop ((Int.toNat v9.1) + (v9.2.length - (Int.toNat v9.1)))).length : Nat) : Int))) ( some (List.take ((Int.toNat v9.1) - 0) (List.drop (0) (v9.2.take (Int.toNat v9.1) ++ List.replicate (v9.2.length - (Int.toNat v9.1)) (ApiWord.mk 0 0) ++ v9.2.drop ((Int.toNat v9.1) + (v9.2.length - (Int.toNat v9.1))))))))) fun (v10 : (List ApiWord))=>bindO (if ((decide ((v10.length : Int) > 0)) || (!(e1.Comment == []) || e1.Skip)) = true then guardO (okLen (v1.1.length + 1)) ( some (v1.1 ++ [ApiBlock.mk e1.Skip v10 e1.Comment])) else some v1.1) fun (v11 : (List ApiBlock))=>some (.go (v11,y1.1))) (fun (v1 : (List ApiBlock) × ModalState)=>some (.go (v1.1,v1.2))) a1 0 ([],a0))) fun (v12 : (List ApiBlock) × ModalState)=>some (v12.1,0)
theorem md_Compress_spec {a0 : ModalState} {a1 : (List ApiBlock)} {y : (List ApiBlock) × Int} (h : md_Compress a0 a1 = some y) : Spec gP 17 [.agg [.d (.int .i64 a0.Motion),.d (.int .i64 a0.Distance),.d (.int .i64 a0.Work),.d (.int .i64 a0.Length),.d (.int .i64 a0.Return),.d (.int .i64 a0.Feed),.d (.int .i64 a0.Tool),.d (.int .i64 a0.Offset)],.d (.list (List.map encApiBlock a1))] (.tuple [.d (.list (List.map encApiBlock y.1)),.d (.int .i64 y.2)]) := by
 refine spec_mir Tryz.func17 rfl (by kernel_rfl) (by kernel_rfl) (fun y : (List ApiBlock) × Int=>.tuple [.d (.list (List.map encApiBlock y.1)),.d (.int .i64 y.2)]) ?_ h
 unfold md_Compress
 simp only [List.replicate,List.length,nS,nA,Tryz.ntmps17,SV]
 refine .sR fun e h=>?_
 simp only [seval,EMB,rmap_set,spD]
 refine mU e (.sR fun e h=>?_) h
 simp only [seval,EMB,rmap_set,spD]
 refine mU e (.seqK (.sR fun e h=>?_)) h
 simp only [seval,EMB,und_31,rmap_set,spD]
 refine mU e (.gh [.slot 6 48] rfl (Mir.join (fun v12 : (List ApiBlock) × ModalState=>([U,U,U,U,U,U,.own 0 (List.map encApiBlock v12.1)] ++ us 47)) (fun v12=>⟨[[.d (.int .i64 v12.2.Motion),.d (.int .i64 v12.2.Distance),.d (.int .i64 v12.2.Work),.d (.int .i64 v12.2.Length),.d (.int .i64 v12.2.Return),.d (.int .i64 v12.2.Feed),.d (.int .i64 v12.2.Tool),.d (.int .i64 v12.2.Offset)]],[(48,v12.1.length)]⟩) (fun _=>rfl) ?_ ?_)) h
 refine .block (.guard fun q1=>Mir.range (fun (i1 : Nat) (v1 : (List ApiBlock) × ModalState)=>([U,U,.ptr 0 0,U,U,U,.own 0 (List.map encApiBlock v1.1),U,U,U,U,U,.d (.list (List.map encApiBlock a1)),.d (.int .i64 (a1.length : Int)),.d (.int .i64 (i1 : Int))] ++ us 39)) (fun i1 v1=>⟨[[.d (.int .i64 v1.2.Motion),.d (.int .i64 v1.2.Distance),.d (.int .i64 v1.2.Work),.d (.int .i64 v1.2.Length),.d (.int .i64 v1.2.Return),.d (.int .i64 v1.2.Feed),.d (.int .i64 v1.2.Tool),.d (.int .i64 v1.2.Offset)]],[(48,v1.1.length)]⟩) q1 (fun _ _=>rfl) (by simp only [seval,FMB,rmap_set,spD,zNI]) (by simp only [seval,FMB,rmap_set,spD,zNI]) ?_ ?_)
 intro i1 e1 v1 q2
 refine .sR fun e h=>?_
 simp only [seval,EMB,q2,rmap_set,spD]
 refine mU e (.seqK (.condT rfl (.skip (Mir.toK (.seqK (.block (.sR fun e h=>?_))))))) h
 simp only [seval,EMB,und_31,sz_48,q2,Int.toNat_natCast,ag_48,zero_48,rmap_set,spD]
 refine mU e (.seqK (.bind fun y1 h3=>.region fun e h=>?_)) h
 simp only [seval,EMB,ag_64,sz_64,ag_48,sz_48,rmap_set,spD]
 refine SpecS.by (md_Apply_spec h3) (by simp only [seval,FMB,rmap_set,spD]) ?_
 simp only [seval,EMB,zero_64,sz_64,rmap_set,spD]
 refine mU e (.seqK (.sR fun e h=>?_)) h
 simp only [seval,EMB,rmap_set,spD]
 refine mU e (.cond rfl (fun h4=>?_) (fun h4=>?_)) h
 refine .sR fun e h=>?_
 simp only [seval,EMB,rmap_set,spD]
 refine mU e (.ret fun e h=>?_) h
 cases h
 simp only [seval,FMB,rmap_set,spD,Tryz.results17]
 refine .skip (Mir.toK (.sR fun e h=>?_))
 simp only [seval,EMB,ag_48,sz_48,zero_48,rmap_set,spD]
 refine mU e (.seqK (.bind fun y2 h5=>.bind fun v10 h6=>.region fun e h=>?_)) h
 simp only [seval,EMB,fld_48_1,sz_46,ag_46,rmap_set,spD]
 refine SpecY.toS (slices_Clone_api_Word_api_Word_specY h5) (by simp only [seval,FMB,rmap_set,spD]) ?_
 simp only [seval,EMB,rmap_set,spD]
 refine SpecS.inl Tryz.func44 rfl (by kernel_rfl) (by kernel_rfl) (fun v10 : (List ApiWord)=>.d (.list (List.map encApiWord v10))) (fun v10=>⟨[[.d (.int .i64 v1.2.Motion),.d (.int .i64 v1.2.Distance),.d (.int .i64 v1.2.Work),.d (.int .i64 v1.2.Length),.d (.int .i64 v1.2.Return),.d (.int .i64 v1.2.Feed),.d (.int .i64 v1.2.Tool),.d (.int .i64 v1.2.Offset)],[.d (.bool e1.Skip),.d (.list (List.map encApiWord e1.Words)),.d (.str e1.Comment)],[.d (.int .i64 y1.1.Motion),.d (.int .i64 y1.1.Distance),.d (.int .i64 y1.1.Work),.d (.int .i64 y1.1.Length),.d (.int .i64 y1.1.Return),.d (.int .i64 y1.1.Feed),.d (.int .i64 y1.1.Tool),.d (.int .i64 y1.1.Offset)],[.d (.bool e1.Skip),.d (.list (List.map encApiWord e1.Words)),.d (.str e1.Comment)],[.rowc 83 1 (List.map encApiWord [])]],[(48,v1.1.length)]⟩) h6 rfl ?_ ?_
 simp only [List.replicate,List.length,nS,nA,Tryz.ntmps44,SV]
 refine .sR fun e h=>?_
 simp only [seval,EMB,rmap_set,spD]
 refine mU e (.seqK (.bind fun v5 h7=>.region fun e h=>?_)) h
 simp only [seval,EMB,rmap_set,spD]
 refine SpecS.inl Tryz.func75 rfl (by kernel_rfl) (by kernel_rfl) (fun v5 : Int=>.d (.int .i64 v5)) (fun v5=>⟨[[.d (.int .i64 v1.2.Motion),.d (.int .i64 v1.2.Distance),.d (.int .i64 v1.2.Work),.d (.int .i64 v1.2.Length),.d (.int .i64 v1.2.Return),.d (.int .i64 v1.2.Feed),.d (.int .i64 v1.2.Tool),.d (.int .i64 v1.2.Offset)],[.d (.bool e1.Skip),.d (.list (List.map encApiWord e1.Words)),.d (.str e1.Comment)],[.d (.int .i64 y1.1.Motion),.d (.int .i64 y1.1.Distance),.d (.int .i64 y1.1.Work),.d (.int .i64 y1.1.Length),.d (.int .i64 y1.1.Return),.d (.int .i64 y1.1.Feed),.d (.int .i64 y1.1.Tool),.d (.int .i64 y1.1.Offset)],[.d (.bool e1.Skip),.d (.list (List.map encApiWord e1.Words)),.d (.str e1.Comment)],[.rowc 83 0 (List.map encApiWord y2)]],[(48,v1.1.length)]⟩) h7 rfl ?_ ?_
 simp only [List.replicate,List.length,nS,nA,Tryz.ntmps75,SV]
 refine .sR fun e h=>?_
 simp only [seval,EMB,rmap_set,spD]
 refine mU e (.seqK (.seqK (.regionW fun e h=>regW.alt 1 rfl ?_))) h
 simp only [seval,EMB,w_none,w_eq,rmap_set,spD]
 refine alt_lenR rfl rfl und_46 (regW.of ?_)
 simp only [seval,EMB,w_none,w_eq,und_46,rmap_set,spD]
 refine mU e (Mir.join (fun v4 : Unit=>(us 19)) (fun v4=>⟨[[.d (.int .i64 v1.2.Motion),.d (.int .i64 v1.2.Distance),.d (.int .i64 v1.2.Work),.d (.int .i64 v1.2.Length),.d (.int .i64 v1.2.Return),.d (.int .i64 v1.2.Feed),.d (.int .i64 v1.2.Tool),.d (.int .i64 v1.2.Offset)],[.d (.bool e1.Skip),.d (.list (List.map encApiWord e1.Words)),.d (.str e1.Comment)],[.d (.int .i64 y1.1.Motion),.d (.int .i64 y1.1.Distance),.d (.int .i64 y1.1.Work),.d (.int .i64 y1.1.Length),.d (.int .i64 y1.1.Return),.d (.int .i64 y1.1.Feed),.d (.int .i64 y1.1.Tool),.d (.int .i64 y1.1.Offset)],[.d (.bool e1.Skip),.d (.list (List.map encApiWord e1.Words)),.d (.str e1.Comment)],[.rowc 83 0 (List.map encApiWord y2)]],[(48,v1.1.length)]⟩) (fun _=>rfl) ?_ ?_) h
 refine .block (.guard fun q3=>Mir.range (fun (i2 : Nat) (v2 : Unit)=>([.gr 4 0,.fn 45 [.ptr 0 0],U,U,U,U,U,.d (.int .i64 (y2.length : Int)),.d (.int .i64 (i2 : Int))] ++ us 10)) (fun i2 v2=>⟨[[.d (.int .i64 v1.2.Motion),.d (.int .i64 v1.2.Distance),.d (.int .i64 v1.2.Work),.d (.int .i64 v1.2.Length),.d (.int .i64 v1.2.Return),.d (.int .i64 v1.2.Feed),.d (.int .i64 v1.2.Tool),.d (.int .i64 v1.2.Offset)],[.d (.bool e1.Skip),.d (.list (List.map encApiWord e1.Words)),.d (.str e1.Comment)],[.d (.int .i64 y1.1.Motion),.d (.int .i64 y1.1.Distance),.d (.int .i64 y1.1.Work),.d (.int .i64 y1.1.Length),.d (.int .i64 y1.1.Return),.d (.int .i64 y1.1.Feed),.d (.int .i64 y1.1.Tool),.d (.int .i64 y1.1.Offset)],[.d (.bool e1.Skip),.d (.list (List.map encApiWord e1.Words)),.d (.str e1.Comment)],[.rowc 83 0 (List.map encApiWord y2)]],[(48,v1.1.length)]⟩) q3 (fun _ _=>rfl) (by simp only [seval,FMB,rmap_set,spD,zNI]) (by simp only [seval,FMB,rmap_set,spD,zNI]) ?_ ?_)
 intro i2 e2 v2 q4
 refine .sR fun e h=>?_
 simp only [seval,EMB,q4,rmap_set,spD]
 refine mU e (.seqK (.condT rfl (.skip (Mir.toK (.seqK (.block (.sR fun e h=>?_))))))) h
 simp only [seval,EMB,rmap_set,spD]
 refine mU e (.seqK (.bind fun e3 q5=>?_)) h
 replace q5 := gt_ok q5
 refine .bind fun v3 h8=>.regionW fun e h=>regW.alt 3 rfl ?_
 simp only [seval,EMB,w_none,w_eq,rmap_set,spD]
 refine alt_indexR rfl rfl rfl und_46 sz_83 (row_lo q5.1) (row_hi q5.2 q5.1) (regW.alt 0 rfl ?_)
 simp only [seval,EMB,w_none,w_eq,und_46,sz_83,rmap_set,spD]
 refine alt_loadR rfl rfl (row_at q5.2) (by simp only [↓reduceIte,nA,nL,pt_eq,ag_83,sz_83,dc_cons,dc_nil,SV,encApiWord] <;> rfl) (regW.of ?_)
 simp only [seval,EMB,w_none,w_eq,ag_83,sz_83,rmap_set,spD]
 refine SpecS.inl Tryz.func45 rfl (by kernel_rfl) (by kernel_rfl) (fun v3 : Bool=>.d (.bool v3)) (fun v3=>⟨[[.d (.int .i64 v1.2.Motion),.d (.int .i64 v1.2.Distance),.d (.int .i64 v1.2.Work),.d (.int .i64 v1.2.Length),.d (.int .i64 v1.2.Return),.d (.int .i64 v1.2.Feed),.d (.int .i64 v1.2.Tool),.d (.int .i64 v1.2.Offset)],[.d (.bool e1.Skip),.d (.list (List.map encApiWord e1.Words)),.d (.str e1.Comment)],[.d (.int .i64 y1.1.Motion),.d (.int .i64 y1.1.Distance),.d (.int .i64 y1.1.Work),.d (.int .i64 y1.1.Length),.d (.int .i64 y1.1.Return),.d (.int .i64 y1.1.Feed),.d (.int .i64 y1.1.Tool),.d (.int .i64 y1.1.Offset)],[.d (.bool e1.Skip),.d (.list (List.map encApiWord e1.Words)),.d (.str e1.Comment)],[.rowc 83 0 (List.map encApiWord y2)]],[(48,v1.1.length)]⟩) h8 rfl ?_ ?_
 simp only [List.replicate,List.length,nS,nA,Tryz.ntmps45,SV]
 refine .sR fun e h=>?_
 simp only [seval,EMB,rmap_set,spD]
 refine mU e (.seqK (.bind fun y3 h9=>.region fun e h=>?_)) h
 simp only [seval,EMB,ag_64,sz_64,ag_83,sz_83,rmap_set,spD]
 refine SpecS.by (md_idle_spec h9) (by simp only [seval,FMB,rmap_set,spD]) ?_
 simp only [seval,EMB,rmap_set,spD]
 refine mU e (.ret fun e h=>?_) h
 cases h
 simp only [seval,FMB,rmap_set,spD,Tryz.results45]
 simp only [seval,EMB,w_none,w_eq,rmap_set,spD]
 refine mU e (.cond rfl (fun h10=>?_) (fun h10=>?_)) h
 refine .sR fun e h=>?_
 simp only [seval,EMB,rmap_set,spD]
 refine mU e (.ret fun e h=>?_) h
 cases h
 simp only [seval,FMB,rmap_set,spD,Tryz.results75]
 refine .skip (Mir.toB (Mir.toK (.region fun e h=>?_)))
 simp only [seval,EMB,rmap_set,spD]
 cases h
 simp only [seval,FMB,rmap_set,spD,Tryz.results75,q4]
 intro v2 q6
 refine .sR fun e h=>?_
 simp only [seval,EMB,q6,rmap_set,spD]
 refine mU e (.seqK (.condF rfl (.exit fun e h=>?_))) h
 cases h
 simp only [seval,FMB,rmap_set,spD,Tryz.results75]
 intro v4
 refine Mir.toK (.sR fun e h=>?_)
 simp only [seval,EMB,rmap_set,spD]
 refine mU e (.ret fun e h=>?_) h
 cases h
 simp only [seval,FMB,rmap_set,spD,Tryz.results75]
 simp only [seval,EMB,rmap_set,spD]
 refine mU e (.seqK (.sR fun e h=>?_)) h
 simp only [seval,EMB,rmap_set,spD]
 refine mU e (.cond rfl (fun h11=>?_) (fun h11=>?_)) h
 refine .sR fun e h=>?_
 simp only [seval,EMB,rmap_set,spD]
 refine mU e (.frz 4 rfl ?_) h
 simp only [seval,us_0,us_s,xCA,xNA,and_self,and_true,true_and,and_false,false_and,SZ]
 refine .ret fun e h=>?_
 cases h
 simp only [seval,FMB,rmap_set,spD,Tryz.results44]
 refine .skip (Mir.toK (.seqK (.sR fun e h=>?_)))
 simp only [seval,EMB,rmap_set,spD]
 refine mU e (Mir.joinO (fun v9 : Int × (List ApiWord)=>([.gr 4 0,U,U,U,U,.d (.int .i64 v9.1)] ++ us 36)) (fun v9=>⟨[[.d (.int .i64 v1.2.Motion),.d (.int .i64 v1.2.Distance),.d (.int .i64 v1.2.Work),.d (.int .i64 v1.2.Length),.d (.int .i64 v1.2.Return),.d (.int .i64 v1.2.Feed),.d (.int .i64 v1.2.Tool),.d (.int .i64 v1.2.Offset)],[.d (.bool e1.Skip),.d (.list (List.map encApiWord e1.Words)),.d (.str e1.Comment)],[.d (.int .i64 y1.1.Motion),.d (.int .i64 y1.1.Distance),.d (.int .i64 y1.1.Work),.d (.int .i64 y1.1.Length),.d (.int .i64 y1.1.Return),.d (.int .i64 y1.1.Feed),.d (.int .i64 y1.1.Tool),.d (.int .i64 y1.1.Offset)],[.d (.bool e1.Skip),.d (.list (List.map encApiWord e1.Words)),.d (.str e1.Comment)],[.rowc 83 0 (List.map encApiWord v9.2)]],[(48,v1.1.length)]⟩) (fun _=>rfl) ?_ ?_) h
 refine .block (Mir.loop (fun v6 : Int × Int × (List ApiWord)=>([.gr 4 0,.fn 45 [.ptr 0 0],U,U,U,.d (.int .i64 v6.1),.d (.int .i64 v6.2.1)] ++ us 35)) (fun v6=>⟨[[.d (.int .i64 v1.2.Motion),.d (.int .i64 v1.2.Distance),.d (.int .i64 v1.2.Work),.d (.int .i64 v1.2.Length),.d (.int .i64 v1.2.Return),.d (.int .i64 v1.2.Feed),.d (.int .i64 v1.2.Tool),.d (.int .i64 v1.2.Offset)],[.d (.bool e1.Skip),.d (.list (List.map encApiWord e1.Words)),.d (.str e1.Comment)],[.d (.int .i64 y1.1.Motion),.d (.int .i64 y1.1.Distance),.d (.int .i64 y1.1.Work),.d (.int .i64 y1.1.Length),.d (.int .i64 y1.1.Return),.d (.int .i64 y1.1.Feed),.d (.int .i64 y1.1.Tool),.d (.int .i64 y1.1.Offset)],[.d (.bool e1.Skip),.d (.list (List.map encApiWord e1.Words)),.d (.str e1.Comment)],[.rowc 83 0 (List.map encApiWord v6.2.2)]],[(48,v1.1.length)]⟩) (fun _=>rfl) (by simp only [seval,FMB,rmap_set,spD]) (by simp only [seval,FMB,rmap_set,spD]) fun v6=>.seqK (.seqK (.regionW fun e h=>regW.alt 2 rfl ?_)))
 simp only [seval,EMB,w_none,w_eq,rmap_set,spD]
 refine alt_lenR rfl rfl und_46 (regW.of ?_)
 simp only [seval,EMB,w_none,w_eq,und_46,rmap_set,spD]
 refine mU e (.cond rfl (fun h12=>?_) (fun h12=>?_)) h
 refine .skip (Mir.toK (.seqK (Mir.joinO (fun v8 : Int × (List ApiWord)=>([.gr 4 0,.fn 45 [.ptr 0 0],U,U,U,.d (.int .i64 v8.1),.d (.int .i64 v6.2.1)] ++ us 35)) (fun v8=>⟨[[.d (.int .i64 v1.2.Motion),.d (.int .i64 v1.2.Distance),.d (.int .i64 v1.2.Work),.d (.int .i64 v1.2.Length),.d (.int .i64 v1.2.Return),.d (.int .i64 v1.2.Feed),.d (.int .i64 v1.2.Tool),.d (.int .i64 v1.2.Offset)],[.d (.bool e1.Skip),.d (.list (List.map encApiWord e1.Words)),.d (.str e1.Comment)],[.d (.int .i64 y1.1.Motion),.d (.int .i64 y1.1.Distance),.d (.int .i64 y1.1.Work),.d (.int .i64 y1.1.Length),.d (.int .i64 y1.1.Return),.d (.int .i64 y1.1.Feed),.d (.int .i64 y1.1.Tool),.d (.int .i64 y1.1.Offset)],[.d (.bool e1.Skip),.d (.list (List.map encApiWord e1.Words)),.d (.str e1.Comment)],[.rowc 83 0 (List.map encApiWord v8.2)]],[(48,v1.1.length)]⟩) (fun _=>rfl) ?_ ?_)))
 refine .block (.seqK (.bind fun e4 q7=>?_))
 replace q7 := gt_ok q7
 refine .regionW fun e h=>regW.alt 2 rfl ?_
 simp only [seval,EMB,w_none,w_eq,rmap_set,spD]
 refine alt_indexR rfl rfl rfl und_46 sz_83 (row_lo q7.1) (row_hi q7.2 q7.1) (regW.alt 0 rfl ?_)
 simp only [seval,EMB,w_none,w_eq,und_46,sz_83,rmap_set,spD]
 refine alt_loadR rfl rfl (row_at q7.2) (by simp only [↓reduceIte,nA,nL,pt_eq,ag_83,sz_83,dc_cons,dc_nil,SV,encApiWord] <;> rfl) (regW.of ?_)
 simp only [seval,EMB,w_none,w_eq,ag_83,sz_83,zero_83,rmap_set,spD]
 refine mU e (.seqK (.bind fun v7 h13=>.region fun e h=>?_)) h
 simp only [seval,EMB,ag_83,sz_83,rmap_set,spD]
 refine SpecS.inl Tryz.func45 rfl (by kernel_rfl) (by kernel_rfl) (fun v7 : Bool=>.d (.bool v7)) (fun v7=>⟨[[.d (.int .i64 v1.2.Motion),.d (.int .i64 v1.2.Distance),.d (.int .i64 v1.2.Work),.d (.int .i64 v1.2.Length),.d (.int .i64 v1.2.Return),.d (.int .i64 v1.2.Feed),.d (.int .i64 v1.2.Tool),.d (.int .i64 v1.2.Offset)],[.d (.bool e1.Skip),.d (.list (List.map encApiWord e1.Words)),.d (.str e1.Comment)],[.d (.int .i64 y1.1.Motion),.d (.int .i64 y1.1.Distance),.d (.int .i64 y1.1.Work),.d (.int .i64 y1.1.Length),.d (.int .i64 y1.1.Return),.d (.int .i64 y1.1.Feed),.d (.int .i64 y1.1.Tool),.d (.int .i64 y1.1.Offset)],[.d (.bool e1.Skip),.d (.list (List.map encApiWord e1.Words)),.d (.str e1.Comment)],[.rowc 83 0 (List.map encApiWord v6.2.2)],[.d (.int .u8 e4.Letter),.d (.int .i64 e4.Value)]],[(48,v1.1.length)]⟩) h13 rfl ?_ ?_
 simp only [List.replicate,List.length,nS,nA,Tryz.ntmps45,SV]
 refine .sR fun e h=>?_
 simp only [seval,EMB,rmap_set,spD]
 refine mU e (.seqK (.bind fun y4 h14=>.region fun e h=>?_)) h
 simp only [seval,EMB,ag_64,sz_64,ag_83,sz_83,rmap_set,spD]
 refine SpecS.by (md_idle_spec h14) (by simp only [seval,FMB,rmap_set,spD]) ?_
 simp only [seval,EMB,rmap_set,spD]
 refine mU e (.ret fun e h=>?_) h
 cases h
 simp only [seval,FMB,rmap_set,spD,Tryz.results45]
 simp only [seval,EMB,rmap_set,spD]
 refine mU e (.cond rfl (fun h15=>?_) (fun h15=>?_)) h
 refine .seqK (.bind fun e5 q8=>?_)
 replace q8 := gt_ok q8
 refine .regionW fun e h=>regW.alt 3 rfl ?_
 simp only [seval,EMB,w_none,w_eq,ag_83,sz_83,rmap_set,spD]
 refine alt_indexR rfl rfl rfl und_46 sz_83 (row_lo q8.1) (row_hi q8.2 q8.1) (regW.alt 0 rfl ?_)
 simp only [seval,EMB,w_none,w_eq,und_46,sz_83,rmap_set,spD]
 refine alt_storeR rfl rfl (row_at q8.2) rfl rfl sz_83 rfl (Nat.le_of_ble_eq_true rfl) (regW.of ?_)
 simp only [seval,EMB,w_none,w_eq,sz_83,rmap_set,spD]
 refine mU e (.region fun e h=>?_) h
 simp only [seval,EMB,rmap_set,spD]
 cases h
 simp only [seval,FMB,rmap_set,spD,Tryz.results44]
 refine .skip fun e h=>?_
 cases h
 simp only [seval,FMB,rmap_set,spD,Tryz.results44]
 intro v8
 refine Mir.toK (.region fun e h=>?_)
 simp only [seval,EMB,rmap_set,spD]
 cases h
 simp only [seval,FMB,rmap_set,spD,Tryz.results44]
 refine .exit fun e h=>?_
 cases h
 simp only [seval,FMB,rmap_set,spD,Tryz.results44]
 intro v9
 refine Mir.toK (.seqK (.guard fun q9=>?_))
 replace q9 := gsl_of q9
 refine .regionW fun e h=>regW.alt 2 rfl ?_
 simp only [seval,EMB,w_none,w_eq,rmap_set,spD]
 refine alt_sliceR (l := Int.toNat v9.1) (h := v9.2.length) rfl rfl und_46 sz_83 (by simp only [seval,EMB,bd_some,bd_none,Option.map_some,Option.map_none,lm,q9.1,q9.2.1]) (by simp only [seval,EMB,bd_some,bd_none,Option.map_some,Option.map_none,lm,q9.1,q9.2.1]) (by have := q9.2.2.1; simpa only [Int.toNat_natCast] using this) (by rw [lm]; exact Nat.le_refl _) (regW.alt 0 rfl ?_)
 simp only [seval,EMB,w_none,w_eq,und_46,rmap_set,spD]
 refine alt_clearM encApiWord v9.2 (ApiWord.mk 0 0) rfl rfl app_46 zero_83 rfl rfl rfl (by have h1 := ((by have := q9.2.2.1; simpa only [Int.toNat_natCast] using this) : Int.toNat v9.1 ≤ v9.2.length); have h2 := (Nat.le_refl v9.2.length); omega) (regW.of ?_)
 simp only [seval,EMB,w_none,w_eq,rmap_set,spD]
 refine mU e (.seqK (.guard fun q10=>?_)) h
 replace q10 := gsl_of q10
 refine .regionW fun e h=>regW.alt 2 rfl ?_
 simp only [seval,EMB,w_none,w_eq,rmap_set,spD]
 refine alt_sliceR (l := 0) (h := Int.toNat v9.1) rfl rfl und_46 sz_83 (by simp only [seval,EMB,bd_some,bd_none,Option.map_some,Option.map_none,lm,q10.1,q10.2.1]) (by simp only [seval,EMB,bd_some,bd_none,Option.map_some,Option.map_none,lm,q10.1,q10.2.1]) (Nat.zero_le _) (by rw [lm]; exact q10.2.2.2) (regW.of ?_)
 simp only [seval,EMB,w_none,w_eq,und_46,rmap_set,spD]
 refine mU e (.frz 4 rfl ?_) h
 simp only [seval,us_0,us_s,xCA,xNA,and_self,and_true,true_and,and_false,false_and,SZ,tk_map,dr_map]
 repeat first | rw [if_pos (show _ ≤ (_ : Nat) by simp only [lm,List.length_append,List.length_take,List.length_drop,List.length_replicate]; have h1 := ((by have := q9.2.2.1; simpa only [Int.toNat_natCast] using this) : Int.toNat v9.1 ≤ v9.2.length); have h2 := (Nat.le_refl v9.2.length); simp only [List.length_append,List.length_take,List.length_drop,List.length_replicate] at h1 h2; omega)] | rw [if_pos (show _ ≤ (_ : Nat) by simp only [lm,List.length_append,List.length_take,List.length_drop,List.length_replicate]; have h1 := ((by have := q9.2.2.1; simpa only [Int.toNat_natCast] using this) : Int.toNat v9.1 ≤ v9.2.length); have h2 := (Nat.le_refl v9.2.length); omega)] | rw [if_pos (show _ ≤ (_ : Nat) by simp only [lm,List.length_append,List.length_take,List.length_drop,List.length_replicate]; have h1 := ((Nat.zero_le _) : 0 ≤ Int.toNat v9.1); have h2 := q10.2.2.2; simp only [List.length_append,List.length_take,List.length_drop,List.length_replicate] at h1 h2; omega)] | rw [if_pos (show _ ≤ (_ : Nat) by simp only [lm,List.length_append,List.length_take,List.length_drop,List.length_replicate]; have h1 := ((Nat.zero_le _) : 0 ≤ Int.toNat v9.1); have h2 := q10.2.2.2; omega)] | rw [if_pos (show _ ≤ (_ : Nat) by simp only [lm,List.length_append,List.length_take,List.length_drop,List.length_replicate]; have h1 := ((Nat.zero_le _) : 0 ≤ Int.toNat v9.1); have h2 := q10.2.2.2; simp only [List.length_append,List.length_take,List.length_drop,List.length_replicate] at h1 h2; omega)] | rw [if_pos (show _ ≤ (_ : Nat) by simp only [lm,List.length_append,List.length_take,List.length_drop,List.length_replicate]; have h1 := ((Nat.zero_le _) : 0 ≤ Int.toNat v9.1); have h2 := q10.2.2.2; omega)]
 refine .ret fun e h=>?_
 cases h
 simp only [seval,FMB,rmap_set,spD,Tryz.results44]
 simp only [seval,EMB,fld_48_1,sz_46,rmap_set,spD]
 refine mU e (.seqK (.seqK (.joinV ([U,U,.ptr 0 0,U,U,U,.own 0 (List.map encApiBlock v1.1),U,U,.ptr 2 0,U,.ptr 3 0,.d (.list (List.map encApiBlock a1)),.d (.int .i64 (a1.length : Int)),.d (.int .i64 (i1 : Int)),U,U,U,U,U,U,U,U,U,U,U,U,U,U,U,U,U,U,U,U,U,U,U,U,U,U,U,U,U,U,U,.d (.bool ((decide ((v10.length : Int) > 0)) || (!(e1.Comment == []) || e1.Skip)))] ++ us 7) ⟨[[.d (.int .i64 v1.2.Motion),.d (.int .i64 v1.2.Distance),.d (.int .i64 v1.2.Work),.d (.int .i64 v1.2.Length),.d (.int .i64 v1.2.Return),.d (.int .i64 v1.2.Feed),.d (.int .i64 v1.2.Tool),.d (.int .i64 v1.2.Offset)],[.d (.bool e1.Skip),.d (.list (List.map encApiWord e1.Words)),.d (.str e1.Comment)],[.d (.int .i64 y1.1.Motion),.d (.int .i64 y1.1.Distance),.d (.int .i64 y1.1.Work),.d (.int .i64 y1.1.Length),.d (.int .i64 y1.1.Return),.d (.int .i64 y1.1.Feed),.d (.int .i64 y1.1.Tool),.d (.int .i64 y1.1.Offset)],[.d (.bool e1.Skip),.d (.list (List.map encApiWord v10)),.d (.str e1.Comment)],[.rowc 83 1 (List.map encApiWord [])]],[(48,v1.1.length)]⟩ rfl ?_ ?_))) h
 refine SWs.region ?_
 rcases Bool.eq_false_or_eq_true (decide ((v10.length : Int) > 0)) with h16 | h16
 simp only [seval,EMB,SL,PB,fld_48_1,sz_46,ag_46,und_46,h16,rmap_set,spD]
 rcases Bool.eq_false_or_eq_true (e1.Comment == []) with h17 | h17
 simp only [seval,EMB,SL,PB,fld_48_1,sz_46,ag_46,und_46,fld_48_2,sz_9,ag_9,fld_48_0,sz_4,ag_4,h16,h17,rmap_set,spD]
 simp only [seval,EMB,SL,PB,fld_48_1,sz_46,ag_46,und_46,fld_48_2,sz_9,ag_9,h16,h17,rmap_set,spD]
 refine Mir.toK (Mir.joinO (fun v11 : (List ApiBlock)=>([U,U,.ptr 0 0,U,U,U,.own 0 (List.map encApiBlock v11),U,U,.ptr 2 0,U,U,.d (.list (List.map encApiBlock a1)),.d (.int .i64 (a1.length : Int)),.d (.int .i64 (i1 : Int))] ++ us 39)) (fun v11=>⟨[[.d (.int .i64 v1.2.Motion),.d (.int .i64 v1.2.Distance),.d (.int .i64 v1.2.Work),.d (.int .i64 v1.2.Length),.d (.int .i64 v1.2.Return),.d (.int .i64 v1.2.Feed),.d (.int .i64 v1.2.Tool),.d (.int .i64 v1.2.Offset)],[.d (.bool e1.Skip),.d (.list (List.map encApiWord e1.Words)),.d (.str e1.Comment)],[.d (.int .i64 y1.1.Motion),.d (.int .i64 y1.1.Distance),.d (.int .i64 y1.1.Work),.d (.int .i64 y1.1.Length),.d (.int .i64 y1.1.Return),.d (.int .i64 y1.1.Feed),.d (.int .i64 y1.1.Tool),.d (.int .i64 y1.1.Offset)],[.d (.bool e1.Skip),.d (.list (List.map encApiWord v10)),.d (.str e1.Comment)],[.rowc 83 1 (List.map encApiWord [])]],[(48,v11.length)]⟩) (fun _=>rfl) ?_ ?_)
 refine .cond rfl (fun h18=>?_) (fun h18=>?_)
 refine .guard fun q11=>.region fun e h=>?_
 simp only [seval,EMB,ag_48,sz_48,und_31,zero_48,(oL 3),app_31,al_ApiBlock,q11,rmap_set,spD]
 cases h
 simp only [seval,FMB,rmap_set,spD,Tryz.results17]
 refine .skip fun e h=>?_
 cases h
 simp only [seval,FMB,rmap_set,spD,Tryz.results17]
 intro v11
 refine Mir.toK (.region fun e h=>?_)
 simp only [seval,EMB,ag_64,sz_64,rmap_set,spD]
 refine mU e (.region fun e h=>?_) h
 simp only [seval,EMB,rmap_set,spD]
 cases h
 simp only [seval,FMB,rmap_set,spD,Tryz.results17,q2]
 intro v1 q12
 refine .sR fun e h=>?_
 simp only [seval,EMB,q12,rmap_set,spD]
 refine mU e (.seqK (.condF rfl (.exit fun e h=>?_))) h
 cases h
 simp only [seval,FMB,rmap_set,spD,Tryz.results17]
 intro v12
 refine Mir.toK (.sR fun e h=>?_)
 simp only [seval,EMB,rmap_set,spD]
 refine mU e (.ret fun e h=>?_) h
 cases h
 simp only [seval,FMB,rmap_set,spD,Tryz.results17]
def bk_Codes (a0 : ApiBlock) (a1 : Int) : Option (List Int) := bindO (guardO (okIdx a0.Words) ( rangeX (fun (i1 : Nat) (e1 : ApiWord) (v1 : (List Int))=>bindO (if (e1.Letter == a1) = true then guardO (okLen (v1.length + 1)) ( some (v1 ++ [e1.Value])) else some v1) fun (v2 : (List Int))=>some (.go v2)) (fun (v1 : (List Int))=>some v1) a0.Words 0 [])) fun (v3 : (List Int))=>some v3
theorem bk_Codes_spec {a0 : ApiBlock} {a1 : Int} {y : (List Int)} (h : bk_Codes a0 a1 = some y) : Spec gP 52 [.agg [.d (.bool a0.Skip),.d (.list (List.map encApiWord a0.Words)),.d (.str a0.Comment)],.d (.int .u8 a1)] (.d (.list (List.map (eInt .i64) y))) := by
 refine spec_mir Tryz.func52 rfl (by kernel_rfl) (by kernel_rfl) (fun y : (List Int)=>.d (.list (List.map (eInt .i64) y))) ?_ h
 unfold bk_Codes
 simp only [List.replicate,List.length,nS,nA,Tryz.ntmps52,SV]
 refine .sR fun e h=>?_
 simp only [seval,EMB,eInt]
 refine mU e (.sR fun e h=>?_) h
 simp only [seval,EMB,eInt]
 refine mU e (.seqK (.sR fun e h=>?_)) h
 simp only [seval,EMB,fld_48_1,sz_46,ag_46,und_46,eInt]
 refine mU e (.gh [.slot 5 2] rfl (Mir.joinO (fun v3 : (List Int)=>([U,U,U,U,U,.own 0 (List.map (eInt .i64) v3)] ++ us 20)) (fun v3=>⟨[[.d (.bool a0.Skip),.d (.list (List.map encApiWord a0.Words)),.d (.str a0.Comment)]],[(2,v3.length)]⟩) (fun _=>rfl) ?_ ?_)) h
 refine .block (.guard fun qg91=>Mir.range (fun (i1 : Nat) (v1 : (List Int))=>([U,.d (.int .u8 a1),U,U,U,.own 0 (List.map (eInt .i64) v1),U,U,U,.d (.list (List.map encApiWord a0.Words)),.d (.int .i64 (a0.Words.length : Int)),.d (.int .i64 (i1 : Int))] ++ us 14)) (fun i1 v1=>⟨[[.d (.bool a0.Skip),.d (.list (List.map encApiWord a0.Words)),.d (.str a0.Comment)]],[(2,v1.length)]⟩) qg91 (fun _ _=>rfl) (by simp only [seval,FMB,eInt,zNI]) (by simp only [seval,FMB,eInt,zNI]) ?_ ?_)
 intro i1 e1 v1 qr89
 refine .sR fun e h=>?_
 simp only [seval,EMB,qr89,eInt]
 refine mU e (.seqK (.condT rfl (.skip (Mir.toK (.seqK (Mir.joinO (fun v2 : (List Int)=>([U,.d (.int .u8 a1),U,U,U,.own 0 (List.map (eInt .i64) v2),U,U,U,.d (.list (List.map encApiWord a0.Words)),.d (.int .i64 (a0.Words.length : Int)),.d (.int .i64 (i1 : Int))] ++ us 14)) (fun v2=>⟨[[.d (.bool a0.Skip),.d (.list (List.map encApiWord a0.Words)),.d (.str a0.Comment)]],[(2,v2.length)]⟩) (fun _=>rfl) ?_ ?_)))))) h
 refine .block (.sR fun e h=>?_)
 simp only [seval,EMB,und_46,sz_83,qr89,Int.toNat_natCast,ag_83,zero_83,eInt]
 refine mU e (.sR fun e h=>?_) h
 simp only [seval,EMB,fld_83_0,sz_5,ag_5,eInt]
 refine mU e (.cond rfl (fun hb94=>?_) (fun hb94=>?_)) h
 refine .guard fun q95=>.region fun e h=>?_
 simp only [seval,EMB,fld_83_1,sz_2,ag_2,und_93,zero_2,(oL 1),app_93,al_eInt,q95,eInt]
 cases h
 simp only [seval,FMB,eInt,Tryz.results52]
 refine .skip fun e h=>?_
 cases h
 simp only [seval,FMB,eInt,Tryz.results52]
 intro v2
 refine Mir.toK (.region fun e h=>?_)
 simp only [seval,EMB,eInt]
 cases h
 simp only [seval,FMB,eInt,Tryz.results52,qr89]
 intro v1 qd90
 refine .sR fun e h=>?_
 simp only [seval,EMB,qd90,eInt]
 refine mU e (.seqK (.condF rfl (.exit fun e h=>?_))) h
 cases h
 simp only [seval,FMB,eInt,Tryz.results52]
 intro v3
 refine Mir.toK (.sR fun e h=>?_)
 simp only [seval,EMB,eInt]
 refine mU e (.ret fun e h=>?_) h
 cases h
 simp only [seval,FMB,eInt,Tryz.results52]
def slices_Index_int64_int64 (a0 : (List Int)) (a1 : Int) : Option Int := bindX (guardO (okIdx a0) ( rangeX (fun (i1 : Nat) (e1 : Int) (v1 : Unit)=>if (a1 == e1) = true then some (.ret (.ret (i1 : Int))) else some (.go ())) (fun (v1 : Unit)=>some (.go ())) a0 0 ())) fun (v2 : Unit)=>some (-1)
theorem slices_Index_int64_int64_spec {a0 : (List Int)} {a1 : Int} {y : Int} (h : slices_Index_int64_int64 a0 a1 = some y) : Spec gP 78 [.d (.list (List.map (eInt .i64) a0)),.d (.int .i64 a1)] (.d (.int .i64 y)) := by
 refine spec_mir Tryz.func78 rfl (by kernel_rfl) (by kernel_rfl) (fun y : Int=>.d (.int .i64 y)) ?_ h
 unfold slices_Index_int64_int64
 simp only [List.replicate,List.length,nS,nA,Tryz.ntmps78,SV]
 refine .sR fun e h=>?_
 simp only [seval,EMB,eInt]
 refine mU e (.seqK (.sR fun e h=>?_)) h
 simp only [seval,EMB,und_93,eInt]
 refine mU e (Mir.join (fun v2 : Unit=>(us 19)) (fun v2=>⟨[],[]⟩) (fun _=>rfl) ?_ ?_) h
 refine .block (.guard fun qg51=>Mir.range (fun (i1 : Nat) (v1 : Unit)=>([.d (.list (List.map (eInt .i64) a0)),.d (.int .i64 a1),U,U,U,U,U,.d (.int .i64 (a0.length : Int)),.d (.int .i64 (i1 : Int))] ++ us 10)) (fun i1 v1=>⟨[],[]⟩) qg51 (fun _ _=>rfl) (by simp only [seval,FMB,eInt,zNI]) (by simp only [seval,FMB,eInt,zNI]) ?_ ?_)
 intro i1 e1 v1 qr49
 refine .sR fun e h=>?_
 simp only [seval,EMB,qr49,eInt]
 refine mU e (.seqK (.condT rfl (.skip (Mir.toK (.seqK (.block (.sR fun e h=>?_))))))) h
 simp only [seval,EMB,eInt]
 refine mU e (.sR fun e h=>?_) h
 simp only [seval,EMB,und_93,sz_2,qr49,Int.toNat_natCast,ag_2,eInt]
 refine mU e (.cond rfl (fun hb54=>?_) (fun hb54=>?_)) h
 refine .sR fun e h=>?_
 simp only [seval,EMB,eInt]
 refine mU e (.ret fun e h=>?_) h
 cases h
 simp only [seval,FMB,eInt,Tryz.results78]
 refine .skip (Mir.toB (Mir.toK (.region fun e h=>?_)))
 simp only [seval,EMB,eInt]
 cases h
 simp only [seval,FMB,eInt,Tryz.results78,qr49]
 intro v1 qd50
 refine .sR fun e h=>?_
 simp only [seval,EMB,qd50,eInt]
 refine mU e (.seqK (.condF rfl (.exit fun e h=>?_))) h
 cases h
 simp only [seval,FMB,eInt,Tryz.results78]
 intro v2
 refine Mir.toK (.sR fun e h=>?_)
 simp only [seval,EMB,eInt]
 refine mU e (.ret fun e h=>?_) h
 cases h
 simp only [seval,FMB,eInt,Tryz.results78]
def slices_Contains_int64_int64 (a0 : (List Int)) (a1 : Int) : Option Bool := bindO (slices_Index_int64_int64 a0 a1) fun (y1 : Int)=>some (decide (y1 ≥ 0))
theorem slices_Contains_int64_int64_spec {a0 : (List Int)} {a1 : Int} {y : Bool} (h : slices_Contains_int64_int64 a0 a1 = some y) : Spec gP 51 [.d (.list (List.map (eInt .i64) a0)),.d (.int .i64 a1)] (.d (.bool y)) := by
 refine spec_mir Tryz.func51 rfl (by kernel_rfl) (by kernel_rfl) (fun y : Bool=>.d (.bool y)) ?_ h
 unfold slices_Contains_int64_int64
 simp only [List.replicate,List.length,nS,nA,Tryz.ntmps51,SV]
 refine .sR fun e h=>?_
 simp only [seval,EMB,eInt]
 refine mU e (.seqK (.bind fun y1 hy1=>.region fun e h=>?_)) h
 simp only [seval,EMB,eInt]
 refine SpecS.by (slices_Index_int64_int64_spec hy1) (by simp only [seval,FMB,eInt]) ?_
 simp only [seval,EMB,eInt]
 refine mU e (.ret fun e h=>?_) h
 cases h
 simp only [seval,FMB,eInt,Tryz.results51]
def sp_has (a0 : ApiBlock) (a1 : Int) (a2 : Int) : Option Bool := bindO (bk_Codes a0 a1) fun (y1 : (List Int))=>bindO (slices_Contains_int64_int64 y1 a2) fun (y2 : Bool)=>some y2
theorem sp_has_spec {a0 : ApiBlock} {a1 : Int} {a2 : Int} {y : Bool} (h : sp_has a0 a1 a2 = some y) : Spec gP 24 [.agg [.d (.bool a0.Skip),.d (.list (List.map encApiWord a0.Words)),.d (.str a0.Comment)],.d (.int .u8 a1),.d (.int .i64 a2)] (.d (.bool y)) := by
 refine spec_mir Tryz.func24 rfl (by kernel_rfl) (by kernel_rfl) (fun y : Bool=>.d (.bool y)) ?_ h
 unfold sp_has
 simp only [List.replicate,List.length,nS,nA,Tryz.ntmps24,SV]
 refine .sR fun e h=>?_
 simp only [seval,EMB]
 refine mU e (.seqK (.bind fun y1 hy1=>.bind fun y2 hy2=>.region fun e h=>?_)) h
 simp only [seval,EMB,ag_48,sz_48]
 refine SpecS.by (bk_Codes_spec hy1) (by simp only [seval,FMB]) ?_
 simp only [seval,EMB]
 refine SpecS.by (slices_Contains_int64_int64_spec hy2) (by simp only [seval,FMB]) ?_
 simp only [seval,EMB]
 refine mU e (.ret fun e h=>?_) h
 cases h
 simp only [seval,FMB,Tryz.results24]
def sp_marked (a0 : ApiBlock) : Option Bool := bindO (bindO (bk_Codes a0 79) fun (y1 : (List Int))=>if (decide ((y1.length : Int) > 0)) = true then some true else bindO (sp_has a0 77 30000) fun (y2 : Bool)=>if y2 = true then some true else bindO (sp_has a0 77 99000) fun (y3 : Bool)=>some y3) fun (v1 : Bool)=>some v1
theorem sp_marked_spec {a0 : ApiBlock} {y : Bool} (h : sp_marked a0 = some y) : Spec gP 55 [.agg [.d (.bool a0.Skip),.d (.list (List.map encApiWord a0.Words)),.d (.str a0.Comment)]] (.d (.bool y)) := by
 refine spec_mir Tryz.func55 rfl (by kernel_rfl) (by kernel_rfl) (fun y : Bool=>.d (.bool y)) ?_ h
 unfold sp_marked
 simp only [List.replicate,List.length,nS,nA,Tryz.ntmps55,SV]
 refine .sR fun e h=>?_
 simp only [seval,EMB]
 refine mU e (.seqK (Mir.joinO (fun v1 : Bool=>([U,U,.d (.bool v1)] ++ us 12)) (fun v1=>⟨[[.d (.bool a0.Skip),.d (.list (List.map encApiWord a0.Words)),.d (.str a0.Comment)]],[]⟩) (fun _=>rfl) ?_ ?_)) h
 refine .bind fun y1 hy1=>.ite (fun hb2=>?_) (fun hb2=>?_)
 refine .region fun e h=>?_
 simp only [seval,EMB,ag_48,sz_48,hb2]
 refine SpecS.by (bk_Codes_spec hy1) (by simp only [seval,FMB,hb2]) ?_
 simp only [seval,EMB,und_93,hb2]
 cases h
 simp only [seval,FMB,hb2]
 refine .bind fun y2 hy3=>.ite (fun hb4=>?_) (fun hb4=>?_)
 refine .region fun e h=>?_
 simp only [seval,EMB,ag_48,sz_48,hb2,hb4]
 refine SpecS.by (bk_Codes_spec hy1) (by simp only [seval,FMB,hb2,hb4]) ?_
 simp only [seval,EMB,und_93,ag_48,sz_48,hb2,hb4]
 refine SpecS.by (sp_has_spec hy3) (by simp only [seval,FMB,hb2,hb4]) ?_
 simp only [seval,EMB,hb2,hb4]
 cases h
 simp only [seval,FMB,hb2,hb4]
 refine .bind fun y3 hy5=>.region fun e h=>?_
 simp only [seval,EMB,ag_48,sz_48,hb2,hb4]
 refine SpecS.by (bk_Codes_spec hy1) (by simp only [seval,FMB,hb2,hb4]) ?_
 simp only [seval,EMB,und_93,ag_48,sz_48,hb2,hb4]
 refine SpecS.by (sp_has_spec hy3) (by simp only [seval,FMB,hb2,hb4]) ?_
 simp only [seval,EMB,ag_48,sz_48,hb2,hb4]
 refine SpecS.by (sp_has_spec hy5) (by simp only [seval,FMB,hb2,hb4]) ?_
 simp only [seval,EMB,hb2,hb4]
 cases h
 simp only [seval,FMB,hb2,hb4]
 intro v1
 refine Mir.toK (.ret fun e h=>?_)
 cases h
 simp only [seval,FMB,Tryz.results55]
def sp_foldable (a0 : ApiBlock) : Option Bool := bindO (bindO (sp_marked a0) fun (y1 : Bool)=>if y1 = true then some false else bindO (bk_Codes a0 78) fun (y2 : (List Int))=>if ((y2.length : Int) == 0) = true then bindO (sp_has a0 77 98000) fun (y3 : Bool)=>some (!y3) else some false) fun (v1 : Bool)=>some v1
theorem sp_foldable_spec {a0 : ApiBlock} {y : Bool} (h : sp_foldable a0 = some y) : Spec gP 76 [.agg [.d (.bool a0.Skip),.d (.list (List.map encApiWord a0.Words)),.d (.str a0.Comment)]] (.d (.bool y)) := by
 refine spec_mir Tryz.func76 rfl (by kernel_rfl) (by kernel_rfl) (fun y : Bool=>.d (.bool y)) ?_ h
 unfold sp_foldable
 simp only [List.replicate,List.length,nS,nA,Tryz.ntmps76,SV]
 refine .sR fun e h=>?_
 simp only [seval,EMB]
 refine mU e (.seqK (Mir.joinO (fun v1 : Bool=>([U,U,.d (.bool v1)] ++ us 14)) (fun v1=>⟨[[.d (.bool a0.Skip),.d (.list (List.map encApiWord a0.Words)),.d (.str a0.Comment)]],[]⟩) (fun _=>rfl) ?_ ?_)) h
 refine .bind fun y1 hy1=>.ite (fun hb2=>?_) (fun hb2=>?_)
 refine .region fun e h=>?_
 simp only [seval,EMB,ag_48,sz_48,hb2]
 refine SpecS.by (sp_marked_spec hy1) (by simp only [seval,FMB,hb2]) ?_
 simp only [seval,EMB,hb2]
 cases h
 simp only [seval,FMB,hb2]
 refine .bind fun y2 hy3=>.ite (fun hb4=>?_) (fun hb4=>?_)
 refine .bind fun y3 hy5=>.region fun e h=>?_
 simp only [seval,EMB,ag_48,sz_48,hb2,hb4]
 refine SpecS.by (sp_marked_spec hy1) (by simp only [seval,FMB,hb2,hb4]) ?_
 simp only [seval,EMB,ag_48,sz_48,hb2,hb4]
 refine SpecS.by (bk_Codes_spec hy3) (by simp only [seval,FMB,hb2,hb4]) ?_
 simp only [seval,EMB,und_93,ag_48,sz_48,hb2,hb4]
 refine SpecS.by (sp_has_spec hy5) (by simp only [seval,FMB,hb2,hb4]) ?_
 simp only [seval,EMB,hb2,hb4]
 cases h
 simp only [seval,FMB,hb2,hb4]
 refine .region fun e h=>?_
 simp only [seval,EMB,ag_48,sz_48,hb2,hb4]
 refine SpecS.by (sp_marked_spec hy1) (by simp only [seval,FMB,hb2,hb4]) ?_
 simp only [seval,EMB,ag_48,sz_48,hb2,hb4]
 refine SpecS.by (bk_Codes_spec hy3) (by simp only [seval,FMB,hb2,hb4]) ?_
 simp only [seval,EMB,und_93,hb2,hb4]
 cases h
 simp only [seval,FMB,hb2,hb4]
 intro v1
 refine Mir.toK (.ret fun e h=>?_)
 cases h
 simp only [seval,FMB,Tryz.results76]
def slices_Equal_api_Word_api_Word (a0 : (List ApiWord)) (a1 : (List ApiWord)) : Option Bool := if ((a0.length : Int) != (a1.length : Int)) = true then some false else bindX (guardO (okIdx a0) ( rangeX (fun (i1 : Nat) (e1 : ApiWord) (v1 : Unit)=>bindO (gt a1 (i1 : Int)) fun (e2 : ApiWord)=>if (!((e1.Letter == e2.Letter) && (e1.Value == e2.Value))) = true then some (.ret (.ret false)) else some (.go ())) (fun (v1 : Unit)=>some (.go ())) a0 0 ())) fun (v2 : Unit)=>some true
theorem slices_Equal_api_Word_api_Word_spec {a0 : (List ApiWord)} {a1 : (List ApiWord)} {y : Bool} (h : slices_Equal_api_Word_api_Word a0 a1 = some y) : Spec gP 90 [.d (.list (List.map encApiWord a0)),.d (.list (List.map encApiWord a1))] (.d (.bool y)) := by
 refine spec_mir Tryz.func90 rfl (by kernel_rfl) (by kernel_rfl) (fun y : Bool=>.d (.bool y)) ?_ h
 unfold slices_Equal_api_Word_api_Word
 simp only [List.replicate,List.length,nS,nA,Tryz.ntmps90,SV]
 refine .sR fun e h=>?_
 simp only [seval,EMB]
 refine mU e (.seqK (.sR fun e h=>?_)) h
 simp only [seval,EMB,und_46]
 refine mU e (.cond rfl (fun hb2=>?_) (fun hb2=>?_)) h
 refine .sR fun e h=>?_
 simp only [seval,EMB]
 refine mU e (.ret fun e h=>?_) h
 cases h
 simp only [seval,FMB,Tryz.results90]
 refine .skip (Mir.toK (.seqK (.sR fun e h=>?_)))
 simp only [seval,EMB,und_46]
 refine mU e (Mir.join (fun v2 : Unit=>(us 26)) (fun v2=>⟨[],[]⟩) (fun _=>rfl) ?_ ?_) h
 refine .block (.guard fun qg67=>Mir.range (fun (i1 : Nat) (v1 : Unit)=>([.d (.list (List.map encApiWord a0)),.d (.list (List.map encApiWord a1)),U,U,U,U,U,U,U,U,U,U,.d (.int .i64 (a0.length : Int)),.d (.int .i64 (i1 : Int))] ++ us 12)) (fun i1 v1=>⟨[],[]⟩) qg67 (fun _ _=>rfl) (by simp only [seval,FMB,zNI]) (by simp only [seval,FMB,zNI]) ?_ ?_)
 intro i1 e1 v1 qr65
 refine .sR fun e h=>?_
 simp only [seval,EMB,qr65]
 refine mU e (.seqK (.condT rfl (.skip (Mir.toK (.seqK (.block (.sR fun e h=>?_))))))) h
 simp only [seval,EMB]
 refine mU e (.seqK (.bind fun e2 q70=>?_)) h
 replace q70 := gt_ok q70
 simp only [Int.toNat_natCast] at q70
 refine .regionD [] (by kernel_rfl) fun e h=>?_
 simp only [seval,EMB,SB,und_46,sz_83,qr65,Int.toNat_natCast,ag_83,q70,gE_83]
 refine mU e (.cond rfl (fun hb72=>?_) (fun hb72=>?_)) h
 refine .sR fun e h=>?_
 simp only [seval,EMB]
 refine mU e (.ret fun e h=>?_) h
 cases h
 simp only [seval,FMB,Tryz.results90]
 refine .skip (Mir.toB (Mir.toK (.region fun e h=>?_)))
 simp only [seval,EMB]
 cases h
 simp only [seval,FMB,Tryz.results90,qr65]
 intro v1 qd66
 refine .sR fun e h=>?_
 simp only [seval,EMB,qd66]
 refine mU e (.seqK (.condF rfl (.exit fun e h=>?_))) h
 cases h
 simp only [seval,FMB,Tryz.results90]
 intro v2
 refine Mir.toK (.sR fun e h=>?_)
 simp only [seval,EMB]
 refine mU e (.ret fun e h=>?_) h
 cases h
 simp only [seval,FMB,Tryz.results90]
def bk_Equal (a0 : ApiBlock) (a1 : ApiBlock) : Option Bool := bindO (if (a0.Skip == a1.Skip) = true then if (a0.Comment == a1.Comment) = true then bindO (slices_Equal_api_Word_api_Word a0.Words a1.Words) fun (y1 : Bool)=>some y1 else some false else some false) fun (v1 : Bool)=>some v1
theorem bk_Equal_spec {a0 : ApiBlock} {a1 : ApiBlock} {y : Bool} (h : bk_Equal a0 a1 = some y) : Spec gP 77 [.agg [.d (.bool a0.Skip),.d (.list (List.map encApiWord a0.Words)),.d (.str a0.Comment)],.agg [.d (.bool a1.Skip),.d (.list (List.map encApiWord a1.Words)),.d (.str a1.Comment)]] (.d (.bool y)) := by
 refine spec_mir Tryz.func77 rfl (by kernel_rfl) (by kernel_rfl) (fun y : Bool=>.d (.bool y)) ?_ h
 unfold bk_Equal
 simp only [List.replicate,List.length,nS,nA,Tryz.ntmps77,SV]
 refine .sR fun e h=>?_
 simp only [seval,EMB]
 refine mU e (.seqK (Mir.joinO (fun v1 : Bool=>([U,U,U,U,.d (.bool v1)] ++ us 19)) (fun v1=>⟨[[.d (.bool a0.Skip),.d (.list (List.map encApiWord a0.Words)),.d (.str a0.Comment)],[.d (.bool a1.Skip),.d (.list (List.map encApiWord a1.Words)),.d (.str a1.Comment)]],[]⟩) (fun _=>rfl) ?_ ?_)) h
 refine .ite (fun hb1=>?_) (fun hb1=>?_)
 refine .ite (fun hb2=>?_) (fun hb2=>?_)
 refine .bind fun y1 hy3=>.region fun e h=>?_
 simp only [seval,EMB,fld_48_0,sz_4,ag_4,und_4,fld_48_2,sz_9,ag_9,fld_48_1,sz_46,ag_46,hb1,hb2]
 refine SpecS.by (slices_Equal_api_Word_api_Word_spec hy3) (by simp only [seval,FMB,hb1,hb2]) ?_
 simp only [seval,EMB,hb1,hb2]
 cases h
 simp only [seval,FMB,hb1,hb2]
 refine .region fun e h=>?_
 simp only [seval,EMB,fld_48_0,sz_4,ag_4,und_4,fld_48_2,sz_9,ag_9,hb1,hb2]
 cases h
 simp only [seval,FMB,hb1,hb2]
 refine .region fun e h=>?_
 simp only [seval,EMB,fld_48_0,sz_4,ag_4,und_4,hb1]
 cases h
 simp only [seval,FMB,hb1]
 intro v1
 refine Mir.toK (.ret fun e h=>?_)
 cases h
 simp only [seval,FMB,Tryz.results77]
def sp_run (a0 : (List ApiBlock)) (a1 : Int) (a2 : Int) (a3 : Int) : Option Bool := bindX (loopX (fun (v1 : Int)=>if (decide (v1 < a3)) = true then bindO (bindO (gt a0 (IntKind.i64.wrap (a1 + v1))) fun (e1 : ApiBlock)=>bindO (sp_foldable e1) fun (y1 : Bool)=>if y1 = true then bindO (gt a0 (IntKind.i64.wrap (a2 + v1))) fun (e2 : ApiBlock)=>bindO (bk_Equal e1 e2) fun (y2 : Bool)=>some (!y2) else some true) fun (v2 : Bool)=>if v2 = true then some (.ret (.ret false)) else some (.go (IntKind.i64.wrap (v1 + 1))) else some (.ret (.go ()))) fuel 0) fun (v3 : Unit)=>some true
theorem sp_run_spec {a0 : (List ApiBlock)} {a1 : Int} {a2 : Int} {a3 : Int} {y : Bool} (h : sp_run a0 a1 a2 a3 = some y) : Spec gP 48 [.d (.list (List.map encApiBlock a0)),.d (.int .i64 a1),.d (.int .i64 a2),.d (.int .i64 a3)] (.d (.bool y)) := by
 refine spec_mir Tryz.func48 rfl (by kernel_rfl) (by kernel_rfl) (fun y : Bool=>.d (.bool y)) ?_ h
 unfold sp_run
 simp only [List.replicate,List.length,nS,nA,Tryz.ntmps48,SV]
 refine .sR fun e h=>?_
 simp only [seval,EMB]
 refine mU e (.seqK (.sR fun e h=>?_)) h
 simp only [seval,EMB]
 refine mU e (Mir.join (fun v3 : Unit=>(us 39)) (fun v3=>⟨[],[]⟩) (fun _=>rfl) ?_ ?_) h
 refine .block (Mir.loop (fun v1 : Int=>([.d (.list (List.map encApiBlock a0)),.d (.int .i64 a1),.d (.int .i64 a2),U,U,U,U,U,U,U,.d (.int .i64 a3),.d (.int .i64 v1)] ++ us 27)) (fun v1=>⟨[],[]⟩) (fun _=>rfl) (by simp only [seval,FMB]) (by simp only [seval,FMB]) fun v1=>.sR fun e h=>?_)
 simp only [seval,EMB]
 refine mU e (.seqK (.cond rfl (fun hb77=>?_) (fun hb77=>?_))) h
 refine .skip (Mir.toK (.seqK (.block (.sR fun e h=>?_))))
 simp only [seval,EMB]
 refine mU e (.seqK (Mir.joinO (fun v2 : Bool=>[.d (.list (List.map encApiBlock a0)),.d (.int .i64 a1),.d (.int .i64 a2),U,U,U,U,U,U,U,.d (.int .i64 a3),.d (.int .i64 v1),U,U,U,U,U,U,U,U,U,U,U,U,U,U,U,U,U,U,U,U,U,U,U,U,U,.d (.bool v2),U]) (fun v2=>⟨[],[]⟩) (fun _=>rfl) ?_ ?_)) h
 refine .bind fun e1 q84=>?_
 replace q84 := gt_ok q84
 refine .bind fun y1 hy85=>.ite (fun hb86=>?_) (fun hb86=>?_)
 refine .bind fun e2 q87=>?_
 replace q87 := gt_ok q87
 refine .bind fun y2 hy88=>.regionD [] (by kernel_rfl) fun e h=>?_
 simp only [seval,EMB,SB,und_31,sz_48,q84,ag_48,hb86]
 refine Spec.by (sp_foldable_spec hy85) (by simp only [seval,FMB,hb86]) ?_
 simp only [seval,EMB,SB,und_31,sz_48,q84,ag_48,q87,hb86]
 refine Spec.by (bk_Equal_spec hy88) (by simp only [seval,FMB,hb86]) ?_
 simp only [seval,EMB,SB,hb86]
 cases h
 simp only [seval,FMB,hb86]
 refine .regionD [] (by kernel_rfl) fun e h=>?_
 simp only [seval,EMB,SB,und_31,sz_48,q84,ag_48,hb86]
 refine Spec.by (sp_foldable_spec hy85) (by simp only [seval,FMB,hb86]) ?_
 simp only [seval,EMB,SB,hb86]
 cases h
 simp only [seval,FMB,hb86]
 intro v2
 refine Mir.toK (.cond rfl (fun hb90=>?_) (fun hb90=>?_))
 refine .sR fun e h=>?_
 simp only [seval,EMB]
 refine mU e (.ret fun e h=>?_) h
 cases h
 simp only [seval,FMB,Tryz.results48]
 refine .skip (Mir.toB (Mir.toK (.region fun e h=>?_)))
 simp only [seval,EMB]
 cases h
 simp only [seval,FMB,Tryz.results48]
 refine .exit fun e h=>?_
 cases h
 simp only [seval,FMB,Tryz.results48]
 intro v3
 refine Mir.toK (.sR fun e h=>?_)
 simp only [seval,EMB]
 refine mU e (.ret fun e h=>?_) h
 cases h
 simp only [seval,FMB,Tryz.results48]
def sp_first (a0 : (List ApiBlock)) (a1 : Int) : Option Int := bindX (loopX (fun (v1 : Int)=>if (decide ((IntKind.i64.wrap (v1 + a1)) ≤ (IntKind.i64.wrap ((a0.length : Int) - a1)))) = true then bindX (loopX (fun (v2 : Int)=>if (decide ((IntKind.i64.wrap (v2 + a1)) ≤ (a0.length : Int))) = true then bindO (sp_run a0 v1 v2 a1) fun (y1 : Bool)=>if y1 = true then some (.ret (.ret (.ret (.ret v1)))) else some (.go (IntKind.i64.wrap (v2 + 1))) else some (.ret (.go ()))) fuel (IntKind.i64.wrap (v1 + a1))) fun (v3 : Unit)=>some (.go (IntKind.i64.wrap (v1 + 1))) else some (.ret (.go ()))) fuel 0) fun (v4 : Unit)=>some (-1)
theorem sp_first_spec {a0 : (List ApiBlock)} {a1 : Int} {y : Int} (h : sp_first a0 a1 = some y) : Spec gP 47 [.d (.list (List.map encApiBlock a0)),.d (.int .i64 a1)] (.d (.int .i64 y)) := by
 refine spec_mir Tryz.func47 rfl (by kernel_rfl) (by kernel_rfl) (fun y : Int=>.d (.int .i64 y)) ?_ h
 unfold sp_first
 simp only [List.replicate,List.length,nS,nA,Tryz.ntmps47,SV]
 refine .sR fun e h=>?_
 simp only [seval,EMB]
 refine mU e (.seqK (.sR fun e h=>?_)) h
 simp only [seval,EMB]
 refine mU e (Mir.join (fun v4 : Unit=>(us 34)) (fun v4=>⟨[],[]⟩) (fun _=>rfl) ?_ ?_) h
 refine .block (Mir.loop (fun v1 : Int=>([.d (.list (List.map encApiBlock a0)),.d (.int .i64 a1),U,U,U,.d (.int .i64 v1)] ++ us 28)) (fun v1=>⟨[],[]⟩) (fun _=>rfl) (by simp only [seval,FMB]) (by simp only [seval,FMB]) fun v1=>.seqK (.sR fun e h=>?_))
 simp only [seval,EMB,und_31]
 refine mU e (.cond rfl (fun h1=>?_) (fun h1=>?_)) h
 refine .skip (Mir.toK (.seqK (Mir.join (fun v3 : Unit=>([.d (.list (List.map encApiBlock a0)),.d (.int .i64 a1),U,U,U,.d (.int .i64 v1)] ++ us 28)) (fun v3=>⟨[],[]⟩) (fun _=>rfl) ?_ ?_)))
 refine .block (.sR fun e h=>?_)
 simp only [seval,EMB]
 refine mU e (.block (Mir.loop (fun v2 : Int=>([.d (.list (List.map encApiBlock a0)),.d (.int .i64 a1),U,U,U,.d (.int .i64 v1),.d (.int .i64 v2)] ++ us 27)) (fun v2=>⟨[],[]⟩) (fun _=>rfl) (by simp only [seval,FMB]) (by simp only [seval,FMB]) fun v2=>.seqK (.sR fun e h=>?_))) h
 simp only [seval,EMB,und_31]
 refine mU e (.cond rfl (fun h2=>?_) (fun h2=>?_)) h
 refine .skip (Mir.toK (.seqK (.block (.seqK (.bind fun y1 h3=>.region fun e h=>?_)))))
 simp only [seval,EMB]
 refine SpecS.by (sp_run_spec h3) (by simp only [seval,FMB]) ?_
 simp only [seval,EMB]
 refine mU e (.cond rfl (fun h4=>?_) (fun h4=>?_)) h
 refine .sR fun e h=>?_
 simp only [seval,EMB]
 refine mU e (.ret fun e h=>?_) h
 cases h
 simp only [seval,FMB,Tryz.results47]
 refine .skip (Mir.toB (Mir.toK (.region fun e h=>?_)))
 simp only [seval,EMB]
 cases h
 simp only [seval,FMB,Tryz.results47]
 refine .exit fun e h=>?_
 cases h
 simp only [seval,FMB,Tryz.results47]
 intro v3
 refine Mir.toK (.region fun e h=>?_)
 simp only [seval,EMB]
 cases h
 simp only [seval,FMB,Tryz.results47]
 refine .exit fun e h=>?_
 cases h
 simp only [seval,FMB,Tryz.results47]
 intro v4
 refine Mir.toK (.sR fun e h=>?_)
 simp only [seval,EMB]
 refine mU e (.ret fun e h=>?_) h
 cases h
 simp only [seval,FMB,Tryz.results47]
def slices_Clone_api_Block_api_Block (a0 : List ApiBlock) : Option (List ApiBlock) := guardO (okLen a0.length) (some a0)
theorem slices_Clone_api_Block_api_Block_n {c0 : Nat} {y : List ApiBlock} (h : (some []) = some y) : Spec gP 25 [.d (.other (.slice none 0 c0))] (.d (.list (List.map encApiBlock y))) := by
 refine spec_mir Tryz.func25 rfl (by kernel_rfl) (by kernel_rfl) (fun y : List ApiBlock=>.d (.list (List.map encApiBlock y))) ?_ h
 simp only [List.replicate,List.length,nS,nA,Tryz.ntmps25,SV]
 refine .sR fun e h=>?_
 simp only [seval,EMB]
 refine mU e (.seqK (.sR fun e h=>?_)) h
 simp only [seval,EMB,und_31]
 refine mU e (.condT rfl (.sR fun e h=>?_)) h
 simp only [seval,EMB]
 refine mU e (.ret fun e h=>?_) h
 cases h
 simp only [seval,FMB,Tryz.results25]
theorem slices_Clone_api_Block_api_Block_o {p0 : Addr} {c0 : Nat} {y : List ApiBlock} (h : (some []) = some y) : Spec gP 25 [.d (.other (.slice (some p0) 0 c0))] (.d (.list (List.map encApiBlock y))) := by
 refine spec_mir Tryz.func25 rfl (by kernel_rfl) (by kernel_rfl) (fun y : List ApiBlock=>.d (.list (List.map encApiBlock y))) ?_ h
 simp only [List.replicate,List.length,nS,nA,Tryz.ntmps25,SV]
 refine .sR fun e h=>?_
 simp only [seval,EMB]
 refine mU e (.seqK (.sR fun e h=>?_)) h
 simp only [seval,EMB,und_31]
 refine mU e (.condF rfl (.skip (Mir.toK (.sR fun e h=>?_)))) h
 simp only [seval,EMB,und_31,sz_48,zero_48,(oL 0),app_31,al_ApiBlock,List.all_cons,List.all_nil]
 refine mU e (.ret fun e h=>?_) h
 cases h
 simp only [seval,FMB,Tryz.results25]
theorem slices_Clone_api_Block_api_Block_c {x0 : ApiBlock} {l0 : List ApiBlock} {y : List ApiBlock} (h : (guardO (okLen ((x0 :: l0).length)) (   some (x0 :: l0))) = some y) : Spec gP 25 [.d (.list (List.map encApiBlock (x0 :: l0)))] (.d (.list (List.map encApiBlock y))) := by
 refine spec_mir Tryz.func25 rfl (by kernel_rfl) (by kernel_rfl) (fun y : List ApiBlock=>.d (.list (List.map encApiBlock y))) ?_ h
 simp only [List.replicate,List.length,nS,nA,Tryz.ntmps25,SV]
 refine .sR fun e h=>?_
 simp only [seval,EMB]
 refine mU e (.seqK (.sR fun e h=>?_)) h
 simp only [seval,EMB,und_31]
 refine mU e (.condF rfl (.skip (Mir.toK (.seqK (.guard fun q1=>.region fun e h=>?_))))) h
 simp only [seval,EMB,und_31,sz_48,zero_48,(oL 0),app_31,al_ApiBlock,q1]
 refine mU e (.ret fun e h=>?_) h
 cases h
 simp only [seval,FMB,Tryz.results25]
theorem slices_Clone_api_Block_api_Block_spec {a0 : List ApiBlock} {y : List ApiBlock} (h : slices_Clone_api_Block_api_Block a0 = some y) : Spec gP 25 [.d (.list (List.map encApiBlock a0))] (.d (.list (List.map encApiBlock y))) := by
 obtain ⟨hl,h⟩ := guardO_some h
 cases h
 cases a0 with
 | nil =>
  refine Spec.nilcase fun A c=>?_
  cases A with
  | none=>exact slices_Clone_api_Block_api_Block_n rfl
  | some p=>exact slices_Clone_api_Block_api_Block_o rfl
 | cons x l=>exact slices_Clone_api_Block_api_Block_c (by simp only [guardO,hl])
theorem slices_Clone_api_Block_api_Block_On {c0 : Nat} {y : List ApiBlock} (h : (some []) = some y) : SpecO gP 25 [.d (.other (.slice none 0 c0))] 48 (List.map encApiBlock y) := by
 refine specO_mir Tryz.func25 rfl (by kernel_rfl) (by kernel_rfl) (fun y : List ApiBlock=>List.map encApiBlock y) ?_ h
 simp only [List.replicate,List.length,nS,nA,Tryz.ntmps25,SV]
 refine .sR fun e h=>?_
 simp only [seval,EMB]
 refine mU e (.seqK (.sR fun e h=>?_)) h
 simp only [seval,EMB,und_31]
 refine mU e (.condT rfl (.sR fun e h=>?_)) h
 simp only [seval,EMB]
 refine mU e (.ret fun e h=>?_) h
 cases h
 simp only [seval,FMB,Tryz.results25,fy_r,fy_n,yr_o,yr_n]
theorem slices_Clone_api_Block_api_Block_Oo {p0 : Addr} {c0 : Nat} {y : List ApiBlock} (h : (some []) = some y) : SpecO gP 25 [.d (.other (.slice (some p0) 0 c0))] 48 (List.map encApiBlock y) := by
 refine specO_mir Tryz.func25 rfl (by kernel_rfl) (by kernel_rfl) (fun y : List ApiBlock=>List.map encApiBlock y) ?_ h
 simp only [List.replicate,List.length,nS,nA,Tryz.ntmps25,SV]
 refine .sR fun e h=>?_
 simp only [seval,EMB]
 refine mU e (.seqK (.sR fun e h=>?_)) h
 simp only [seval,EMB,und_31]
 refine mU e (.condF rfl (.skip (Mir.toK (.seqK (.regionW fun e h=>regW.alt 0 rfl ?_))))) h
 simp only [seval,EMB,w_none,w_eq]
 refine alt_emptyOwn app_31 (regW.of ?_)
 simp only [seval,EMB,w_none,w_eq,und_31,sz_48,zero_48,(oL 0),app_31,al_ApiBlock]
 refine mU e (.ret fun e h=>?_) h
 cases h
 simp only [seval,FMB,Tryz.results25,fy_r,fy_n,yr_o,yr_n]
theorem slices_Clone_api_Block_api_Block_Oc {x0 : ApiBlock} {l0 : List ApiBlock} {y : List ApiBlock} (h : (guardO (okLen (0 + (x0 :: l0).length)) (   some ([] ++ (x0 :: l0)))) = some y) : SpecO gP 25 [.d (.list (List.map encApiBlock (x0 :: l0)))] 48 (List.map encApiBlock y) := by
 refine specO_mir Tryz.func25 rfl (by kernel_rfl) (by kernel_rfl) (fun y : List ApiBlock=>List.map encApiBlock y) ?_ h
 simp only [List.replicate,List.length,nS,nA,Tryz.ntmps25,SV]
 refine .sR fun e h=>?_
 simp only [seval,EMB]
 refine mU e (.seqK (.sR fun e h=>?_)) h
 simp only [seval,EMB,und_31]
 refine mU e (.condF rfl (.skip (Mir.toK (.seqK (.guard fun q1=>.regionW fun e h=>regW.alt 0 rfl ?_))))) h
 simp only [seval,EMB,w_none,w_eq]
 refine alt_emptyOwn app_31 (regW.of ?_)
 simp only [seval,EMB,w_none,w_eq,und_31,sz_48,zero_48,(oL 0),app_31,al_ApiBlock,q1]
 refine mU e (.ret fun e h=>?_) h
 cases h
 simp only [seval,FMB,Tryz.results25,fy_r,fy_n,yr_o,yr_n]
theorem slices_Clone_api_Block_api_Block_specO {a0 : List ApiBlock} {y : List ApiBlock} (h : slices_Clone_api_Block_api_Block a0 = some y) : SpecO gP 25 [.d (.list (List.map encApiBlock a0))] 48 (List.map encApiBlock y) := by
 obtain ⟨hl,h⟩ := guardO_some h
 cases h
 cases a0 with
 | nil =>
  refine SpecO.nilcase fun A c=>?_
  cases A with
  | none=>exact slices_Clone_api_Block_api_Block_On rfl
  | some p=>exact slices_Clone_api_Block_api_Block_Oo rfl
 | cons x l=>exact slices_Clone_api_Block_api_Block_Oc (by simp only [guardO,Nat.zero_add,List.nil_append,hl])
def sp_Fold (a0 : (List ApiBlock)) (a1 : Int) (a2 : Int) : Option (SubprogramProgram × Int) := if ((decide (a1 < 1)) || ((decide (a1 > 9999)) || (decide (a2 < 1)))) = true then some (SubprogramProgram.mk [] [],1) else bindO (if (decide (a2 ≤ (IntKind.i64.wrap (Int.tdiv (a0.length : Int) 2)))) = true then bindO (sp_first a0 a2) fun (y1 : Int)=>some y1 else some (-1)) fun (v1 : Int)=>if (decide (v1 < 0)) = true then bindO (slices_Clone_api_Block_api_Block a0) fun (y2 : (List ApiBlock))=>some (SubprogramProgram.mk y2 [],0) else bindO (loopX (fun (v2 : (List ApiBlock) × Int)=>if (decide (v2.2 < (a0.length : Int))) = true then bindO (if (decide ((IntKind.i64.wrap (v2.2 + a2)) ≤ (a0.length : Int))) = true then bindO (sp_run a0 v1 v2.2 a2) fun (y3 : Bool)=>some y3 else some false) fun (v3 : Bool)=>if v3 = true then guardO (okLen (v2.1.length + 1)) ( some (.go (v2.1 ++ [ApiBlock.mk false [ApiWord.mk 77 98000,ApiWord.mk 80 (IntKind.i64.wrap (1000 * a1))] []],IntKind.i64.wrap (v2.2 + a2)))) else bindO (gt a0 v2.2) fun (e1 : ApiBlock)=>guardO (okLen (v2.1.length + 1)) ( some (.go (v2.1 ++ [e1],IntKind.i64.wrap (v2.2 + 1)))) else some (.ret v2.1)) fuel ([],0)) fun (v4 : (List ApiBlock))=>bindO (cutL a0 v1 (IntKind.i64.wrap (v1 + a2))) fun (s1 : (List ApiBlock))=>bindO (slices_Clone_api_Block_api_Block s1) fun (y4 : (List ApiBlock))=>some (SubprogramProgram.mk v4 [SubprogramSub.mk a1 y4],0)
theorem sp_Fold_spec {a0 : (List ApiBlock)} {a1 : Int} {a2 : Int} {y : SubprogramProgram × Int} (h : sp_Fold a0 a1 a2 = some y) : Spec gP 19 [.d (.list (List.map encApiBlock a0)),.d (.int .i64 a1),.d (.int .i64 a2)] (.tuple [.agg [.d (.list (List.map encApiBlock y.1.Main)),.d (.list (List.map encSubprogramSub y.1.Subs))],.d (.int .i64 y.2)]) := by
 refine spec_mir Tryz.func19 rfl (by kernel_rfl) (by kernel_rfl) (fun y : SubprogramProgram × Int=>.tuple [.agg [.d (.list (List.map encApiBlock y.1.Main)),.d (.list (List.map encSubprogramSub y.1.Subs))],.d (.int .i64 y.2)]) ?_ h
 unfold sp_Fold
 simp only [List.replicate,List.length,nS,nA,Tryz.ntmps19,SV]
 refine .sR fun e h=>?_
 simp only [seval,EMB,zero_38]
 refine mU e (.seqK (.seqK (.joinV ([.d (.list (List.map encApiBlock a0)),.d (.int .i64 a1),.d (.int .i64 a2),U,U,U,.ptr 0 0,U,U,U,U,U,U,U,U,U,U,U,U,U,.d (.bool ((decide (a1 < 1)) || ((decide (a1 > 9999)) || (decide (a2 < 1)))))] ++ us 64) ⟨[[.nil,.nil]],[]⟩ rfl ?_ ?_))) h
 refine SWs.region ?_
 rcases Bool.eq_false_or_eq_true (decide (a1 < 1)) with hb1 | hb1
 simp only [seval,EMB,SL,PB,hb1]
 rcases Bool.eq_false_or_eq_true (decide (a1 > 9999)) with hb2 | hb2
 simp only [seval,EMB,SL,PB,hb1,hb2]
 simp only [seval,EMB,SL,PB,hb1,hb2]
 refine Mir.toK (.cond rfl (fun hb4=>?_) (fun hb4=>?_))
 refine .sR fun e h=>?_
 simp only [seval,EMB,zero_38,pl_38,sz_38]
 refine mU e (.ret fun e h=>?_) h
 cases h
 simp only [seval,FMB,Tryz.results19,ag_38,sz_38]
 refine .skip (Mir.toK (.sR fun e h=>?_))
 simp only [seval,EMB]
 refine mU e (.seqK (.sR fun e h=>?_)) h
 simp only [seval,EMB,und_31]
 refine mU e (Mir.joinO (fun v1 : Int=>([.d (.list (List.map encApiBlock a0)),.d (.int .i64 a1),.d (.int .i64 a2),U,U,U,.ptr 0 0,U,.d (.int .i64 v1)] ++ us 76)) (fun v1=>⟨[[.nil,.nil]],[]⟩) (fun _=>rfl) ?_ ?_) h
 refine .cond rfl (fun hb7=>?_) (fun hb7=>?_)
 refine .bind fun y1 hy8=>.region fun e h=>?_
 simp only [seval,EMB]
 refine SpecS.by (sp_first_spec hy8) (by simp only [seval,FMB]) ?_
 simp only [seval,EMB]
 cases h
 simp only [seval,FMB,Tryz.results19,ag_38,sz_38]
 refine .skip fun e h=>?_
 cases h
 simp only [seval,FMB,Tryz.results19,ag_38,sz_38]
 intro v1
 refine Mir.toK (.seqK (.sR fun e h=>?_))
 simp only [seval,EMB]
 refine mU e (.cond rfl (fun hb11=>?_) (fun hb11=>?_)) h
 refine .seqK (.bind fun y2 hy12=>.region fun e h=>?_)
 simp only [seval,EMB]
 refine SpecS.by (slices_Clone_api_Block_api_Block_spec hy12) (by simp only [seval,FMB]) ?_
 simp only [seval,EMB,zero_38,pl_38,sz_38]
 refine mU e (.ret fun e h=>?_) h
 cases h
 simp only [seval,FMB,Tryz.results19,ag_38,sz_38]
 refine .skip (Mir.toK (.sR fun e h=>?_))
 simp only [seval,EMB]
 refine mU e (.seqK (.sR fun e h=>?_)) h
 simp only [seval,EMB]
 refine mU e (.gh [.slot 9 48] rfl (Mir.joinO (fun v4 : (List ApiBlock)=>([.d (.list (List.map encApiBlock a0)),.d (.int .i64 a1),.d (.int .i64 a2),U,U,U,.ptr 0 0,U,.d (.int .i64 v1),.own 0 (List.map encApiBlock v4)] ++ us 75)) (fun v4=>⟨[[.nil,.nil]],[(48,v4.length)]⟩) (fun _=>rfl) ?_ ?_)) h
 refine .block (Mir.loop (fun v2 : (List ApiBlock) × Int=>([.d (.list (List.map encApiBlock a0)),.d (.int .i64 a1),.d (.int .i64 a2),U,U,U,.ptr 0 0,U,.d (.int .i64 v1),.own 0 (List.map encApiBlock v2.1),.d (.int .i64 v2.2)] ++ us 74)) (fun v2=>⟨[[.nil,.nil]],[(48,v2.1.length)]⟩) (fun _=>rfl) (by simp only [seval,FMB]) (by simp only [seval,FMB]) fun v2=>.seqK (.sR fun e h=>?_))
 simp only [seval,EMB,und_31]
 refine mU e (.cond rfl (fun h1=>?_) (fun h1=>?_)) h
 refine .skip (Mir.toK (.block (.seqK (.seqK (Mir.joinO (fun v3 : Bool=>([.d (.list (List.map encApiBlock a0)),.d (.int .i64 a1),.d (.int .i64 a2),U,U,U,.ptr 0 0,U,.d (.int .i64 v1),.own 0 (List.map encApiBlock v2.1),.d (.int .i64 v2.2),U,U,U,U,U,U,U,U,U,U,U,U,U,U,U,U,U,U,U,U,U,U,U,U,U,U,U,U,U,U,U,U,U,U,U,U,U,U,U,U,.d (.bool v3)] ++ us 33)) (fun v3=>⟨[[.nil,.nil]],[(48,v2.1.length)]⟩) (fun _=>rfl) ?_ ?_)))))
 refine .ite (fun h2=>?_) (fun h2=>?_)
 refine .bind fun y3 h3=>.region fun e h=>?_
 simp only [seval,EMB,und_31,h2]
 refine SpecS.by (sp_run_spec h3) (by simp only [seval,FMB,h2]) ?_
 simp only [seval,EMB,h2]
 cases h
 simp only [seval,FMB,h2]
 refine .region fun e h=>?_
 simp only [seval,EMB,und_31,h2]
 cases h
 simp only [seval,FMB,h2]
 intro v3
 refine Mir.toK (.cond rfl (fun h4=>?_) (fun h4=>?_))
 refine .seqK (.guard fun q1=>.region fun e h=>?_)
 simp only [seval,EMB,zero_83,pl_83,und_46,sz_83,(oL 4),zero_48,pl_48,und_31,sz_48,(oL 3),app_31,al_ApiBlock,q1]
 refine mU e (.sR fun e h=>?_) h
 simp only [seval,EMB]
 refine mU e (.exit fun e h=>?_) h
 cases h
 simp only [seval,FMB,Tryz.results19,ag_38,sz_38]
 refine .skip (Mir.toK (.seqK (.bind fun e1 q2=>?_)))
 replace q2 := gt_ok q2
 refine .guard fun q3=>.region fun e h=>?_
 simp only [seval,EMB,und_31,sz_48,q2,ag_48,zero_48,(oL 3),app_31,al_ApiBlock,q3]
 refine mU e (.region fun e h=>?_) h
 simp only [seval,EMB]
 cases h
 simp only [seval,FMB,Tryz.results19,ag_38,sz_38]
 refine .exit fun e h=>?_
 cases h
 simp only [seval,FMB,Tryz.results19,ag_38,sz_38]
 intro v4
 refine Mir.toK (.seqK (.bind fun s1 q4=>?_))
 replace q4 := cutL_ok q4
 refine .bind fun y4 h5=>.region fun e h=>?_
 simp only [seval,EMB,und_31,sz_48,q4,Nat.le_refl,and_true,true_and,dm,tm,al_ApiBlock]
 refine SpecS.by (slices_Clone_api_Block_api_Block_spec h5) (by simp only [seval,FMB]) ?_
 simp only [seval,EMB,zero_75,pl_75,und_36,sz_75,(oL 2),zero_38,pl_38,sz_38]
 refine mU e (.ret fun e h=>?_) h
 cases h
 simp only [seval,FMB,Tryz.results19,ag_38,sz_38]
def sp_Join (a0 : SubprogramProgram) : Option (List ApiBlock) := bindO (slices_Clone_api_Block_api_Block a0.Main) fun (y1 : (List ApiBlock))=>bindO (guardO (okIdx a0.Subs) ( rangeX (fun (i1 : Nat) (e1 : SubprogramSub) (v1 : (List ApiBlock))=>guardO (okLen (v1.length + 1)) ( guardO (okLen (v1.length + 1 + e1.Blocks.length)) ( guardO (okLen (v1.length + 1 + e1.Blocks.length + 1)) ( some (.go (v1 ++ [ApiBlock.mk false [ApiWord.mk 79 (IntKind.i64.wrap (1000 * e1.Number))] []] ++ e1.Blocks ++ [ApiBlock.mk false [ApiWord.mk 77 99000] []])))))) (fun (v1 : (List ApiBlock))=>some v1) a0.Subs 0 y1)) fun (v2 : (List ApiBlock))=>some v2
theorem sp_Join_spec {a0 : SubprogramProgram} {y : (List ApiBlock)} (h : sp_Join a0 = some y) : Spec gP 20 [.agg [.d (.list (List.map encApiBlock a0.Main)),.d (.list (List.map encSubprogramSub a0.Subs))]] (.d (.list (List.map encApiBlock y))) := by
 refine spec_mir Tryz.func20 rfl (by kernel_rfl) (by kernel_rfl) (fun y : (List ApiBlock)=>.d (.list (List.map encApiBlock y))) ?_ h
 unfold sp_Join
 simp only [List.replicate,List.length,nS,nA,Tryz.ntmps20,SV]
 refine .sR fun e h=>?_
 simp only [seval,EMB]
 refine mU e (.seqK (.bind fun y1 hy1=>.region fun e h=>?_)) h
 simp only [seval,EMB,fld_38_0,sz_31,ag_31]
 refine SpecO.toS (slices_Clone_api_Block_api_Block_specO hy1) (by simp only [seval,FMB]) ?_
 simp only [seval,EMB]
 refine mU e (.seqK (.sR fun e h=>?_)) h
 simp only [seval,EMB,fld_38_1,sz_36,ag_36,und_36]
 refine mU e (Mir.joinO (fun v2 : (List ApiBlock)=>([U,U,U,.own 0 (List.map encApiBlock v2)] ++ us 33)) (fun v2=>⟨[[.d (.list (List.map encApiBlock a0.Main)),.d (.list (List.map encSubprogramSub a0.Subs))]],[(48,v2.length)]⟩) (fun _=>rfl) ?_ ?_) h
 refine .block (.guard fun qg73=>Mir.range (fun (i1 : Nat) (v1 : (List ApiBlock))=>([U,U,U,.own 0 (List.map encApiBlock v1),U,U,U,U,U,U,.d (.list (List.map encSubprogramSub a0.Subs)),.d (.int .i64 (a0.Subs.length : Int)),.d (.int .i64 (i1 : Int))] ++ us 24)) (fun i1 v1=>⟨[[.d (.list (List.map encApiBlock a0.Main)),.d (.list (List.map encSubprogramSub a0.Subs))]],[(48,v1.length)]⟩) qg73 (fun _ _=>rfl) (by simp only [seval,FMB,zNI]) (by simp only [seval,FMB,zNI]) ?_ ?_)
 intro i1 e1 v1 qr71
 refine .sR fun e h=>?_
 simp only [seval,EMB,qr71]
 refine mU e (.seqK (.condT rfl (.skip (Mir.toK (.seqK (.block (.sR fun e h=>?_))))))) h
 simp only [seval,EMB,und_36,sz_75,qr71,Int.toNat_natCast,ag_75,zero_75]
 refine mU e (.seqK (.guard fun q77=>.region fun e h=>?_)) h
 simp only [seval,EMB,fld_75_0,sz_2,ag_2,zero_83,pl_83,und_46,sz_83,(oL 2),zero_48,pl_48,und_31,sz_48,(oL 3),app_31,al_ApiBlock,q77]
 refine mU e (.seqK (.guard fun q78=>.region fun e h=>?_)) h
 simp only [seval,EMB,fld_75_1,sz_31,ag_31,app_31,al_ApiBlock,xLA,q78]
 refine mU e (.guard fun q79=>.region fun e h=>?_) h
 simp only [seval,EMB,zero_83,pl_83,und_46,sz_83,(oL 2),zero_48,pl_48,und_31,sz_48,(oL 3),app_31,al_ApiBlock,xLA,q79]
 refine mU e (.region fun e h=>?_) h
 simp only [seval,EMB]
 cases h
 simp only [seval,FMB,Tryz.results20,qr71]
 intro v1 qd72
 refine .sR fun e h=>?_
 simp only [seval,EMB,qd72]
 refine mU e (.seqK (.condF rfl (.exit fun e h=>?_))) h
 cases h
 simp only [seval,FMB,Tryz.results20]
 intro v2
 refine Mir.toK (.sR fun e h=>?_)
 simp only [seval,EMB]
 refine mU e (.ret fun e h=>?_) h
 cases h
 simp only [seval,FMB,Tryz.results20]
def bk_Find (a0 : ApiBlock) (a1 : Int) : Option (Int × Bool) := bindX (guardO (okIdx a0.Words) ( rangeX (fun (i1 : Nat) (e1 : ApiWord) (v1 : Unit)=>if (e1.Letter == a1) = true then some (.ret (.ret (e1.Value,true))) else some (.go ())) (fun (v1 : Unit)=>some (.go ())) a0.Words 0 ())) fun (v2 : Unit)=>some (0,false)
theorem bk_Find_spec {a0 : ApiBlock} {a1 : Int} {y : Int × Bool} (h : bk_Find a0 a1 = some y) : Spec gP 49 [.agg [.d (.bool a0.Skip),.d (.list (List.map encApiWord a0.Words)),.d (.str a0.Comment)],.d (.int .u8 a1)] (.tuple [.d (.int .i64 y.1),.d (.bool y.2)]) := by
 refine spec_mir Tryz.func49 rfl (by kernel_rfl) (by kernel_rfl) (fun y : Int × Bool=>.tuple [.d (.int .i64 y.1),.d (.bool y.2)]) ?_ h
 unfold bk_Find
 simp only [List.replicate,List.length,nS,nA,Tryz.ntmps49,SV]
 refine .sR fun e h=>?_
 simp only [seval,EMB]
 refine mU e (.seqK (.sR fun e h=>?_)) h
 simp only [seval,EMB,fld_48_1,sz_46,ag_46,und_46]
 refine mU e (Mir.join (fun v2 : Unit=>(us 22)) (fun v2=>⟨[[.d (.bool a0.Skip),.d (.list (List.map encApiWord a0.Words)),.d (.str a0.Comment)]],[]⟩) (fun _=>rfl) ?_ ?_) h
 refine .block (.guard fun qg51=>Mir.range (fun (i1 : Nat) (v1 : Unit)=>([U,.d (.int .u8 a1),U,U,U,U,U,U,U,.d (.list (List.map encApiWord a0.Words)),.d (.int .i64 (a0.Words.length : Int)),.d (.int .i64 (i1 : Int))] ++ us 10)) (fun i1 v1=>⟨[[.d (.bool a0.Skip),.d (.list (List.map encApiWord a0.Words)),.d (.str a0.Comment)]],[]⟩) qg51 (fun _ _=>rfl) (by simp only [seval,FMB,zNI]) (by simp only [seval,FMB,zNI]) ?_ ?_)
 intro i1 e1 v1 qr49
 refine .sR fun e h=>?_
 simp only [seval,EMB,qr49]
 refine mU e (.seqK (.condT rfl (.skip (Mir.toK (.seqK (.block (.sR fun e h=>?_))))))) h
 simp only [seval,EMB,und_46,sz_83,qr49,Int.toNat_natCast,ag_83,zero_83]
 refine mU e (.sR fun e h=>?_) h
 simp only [seval,EMB,fld_83_0,sz_5,ag_5]
 refine mU e (.cond rfl (fun hb54=>?_) (fun hb54=>?_)) h
 refine .sR fun e h=>?_
 simp only [seval,EMB,fld_83_1,sz_2,ag_2]
 refine mU e (.ret fun e h=>?_) h
 cases h
 simp only [seval,FMB,Tryz.results49]
 refine .skip (Mir.toB (Mir.toK (.region fun e h=>?_)))
 simp only [seval,EMB]
 cases h
 simp only [seval,FMB,Tryz.results49,qr49]
 intro v1 qd50
 refine .sR fun e h=>?_
 simp only [seval,EMB,qd50]
 refine mU e (.seqK (.condF rfl (.exit fun e h=>?_))) h
 cases h
 simp only [seval,FMB,Tryz.results49]
 intro v2
 refine Mir.toK (.sR fun e h=>?_)
 simp only [seval,EMB]
 refine mU e (.ret fun e h=>?_) h
 cases h
 simp only [seval,FMB,Tryz.results49]
def po_returns (a0 : ApiBlock) : Option Bool := bindO (bk_Codes a0 77) fun (y1 : (List Int))=>bindX (guardO (okIdx y1) ( rangeX (fun (i1 : Nat) (e1 : Int) (v1 : Unit)=>if (e1 == 99000) = true then some (.ret (.ret true)) else some (.go ())) (fun (v1 : Unit)=>some (.go ())) y1 0 ())) fun (v2 : Unit)=>some false
theorem po_returns_spec {a0 : ApiBlock} {y : Bool} (h : po_returns a0 = some y) : Spec gP 50 [.agg [.d (.bool a0.Skip),.d (.list (List.map encApiWord a0.Words)),.d (.str a0.Comment)]] (.d (.bool y)) := by
 refine spec_mir Tryz.func50 rfl (by kernel_rfl) (by kernel_rfl) (fun y : Bool=>.d (.bool y)) ?_ h
 unfold po_returns
 simp only [List.replicate,List.length,nS,nA,Tryz.ntmps50,SV]
 refine .sR fun e h=>?_
 simp only [seval,EMB,eInt]
 refine mU e (.seqK (.seqK (.bind fun y1 hy1=>.region fun e h=>?_))) h
 simp only [seval,EMB,ag_48,sz_48,eInt]
 refine SpecS.by (bk_Codes_spec hy1) (by simp only [seval,FMB,eInt]) ?_
 simp only [seval,EMB,und_93,eInt]
 refine mU e (Mir.join (fun v2 : Unit=>(us 15)) (fun v2=>⟨[[.d (.bool a0.Skip),.d (.list (List.map encApiWord a0.Words)),.d (.str a0.Comment)]],[]⟩) (fun _=>rfl) ?_ ?_) h
 refine .block (.guard fun qg52=>Mir.range (fun (i1 : Nat) (v1 : Unit)=>([U,U,U,U,U,U,.d (.list (List.map (eInt .i64) y1)),.d (.int .i64 (y1.length : Int)),.d (.int .i64 (i1 : Int))] ++ us 6)) (fun i1 v1=>⟨[[.d (.bool a0.Skip),.d (.list (List.map encApiWord a0.Words)),.d (.str a0.Comment)]],[]⟩) qg52 (fun _ _=>rfl) (by simp only [seval,FMB,eInt,zNI]) (by simp only [seval,FMB,eInt,zNI]) ?_ ?_)
 intro i1 e1 v1 qr50
 refine .sR fun e h=>?_
 simp only [seval,EMB,qr50,eInt]
 refine mU e (.seqK (.condT rfl (.skip (Mir.toK (.seqK (.block (.sR fun e h=>?_))))))) h
 simp only [seval,EMB,und_93,sz_2,qr50,Int.toNat_natCast,ag_2,eInt]
 refine mU e (.sR fun e h=>?_) h
 simp only [seval,EMB,eInt]
 refine mU e (.cond rfl (fun hb55=>?_) (fun hb55=>?_)) h
 refine .sR fun e h=>?_
 simp only [seval,EMB,eInt]
 refine mU e (.ret fun e h=>?_) h
 cases h
 simp only [seval,FMB,eInt,Tryz.results50]
 refine .skip (Mir.toB (Mir.toK (.region fun e h=>?_)))
 simp only [seval,EMB,eInt]
 cases h
 simp only [seval,FMB,eInt,Tryz.results50,qr50]
 intro v1 qd51
 refine .sR fun e h=>?_
 simp only [seval,EMB,qd51,eInt]
 refine mU e (.seqK (.condF rfl (.exit fun e h=>?_))) h
 cases h
 simp only [seval,FMB,eInt,Tryz.results50]
 intro v2
 refine Mir.toK (.sR fun e h=>?_)
 simp only [seval,EMB,eInt]
 refine mU e (.ret fun e h=>?_) h
 cases h
 simp only [seval,FMB,eInt,Tryz.results50]
def po_numbered (a0 : (List ApiBlock)) (a1 : Int) : Option (List ApiBlock) := bindO (guardO (okIdx a0) ( rangeX (fun (i1 : Nat) (e1 : ApiBlock) (v1 : (List ApiBlock) × Int)=>bindO (bk_Find e1 79) fun (y1 : Int × Bool)=>bindO (if y1.2 = true then some false else bindO (po_returns e1) fun (y2 : Bool)=>some (!y2)) fun (v2 : Bool)=>bindO (if v2 = true then bindO (po_whole 78 v1.2) fun (y3 : ApiWord)=>guardO (okLen (1 + e1.Words.length)) ( some (IntKind.i64.wrap (v1.2 + a1),[y3] ++ e1.Words)) else some (v1.2,e1.Words)) fun (v3 : Int × (List ApiWord))=>guardO (okLen (v1.1.length + 1)) ( some (.go (v1.1 ++ [ApiBlock.mk e1.Skip v3.2 e1.Comment],v3.1)))) (fun (v1 : (List ApiBlock) × Int)=>some v1.1) a0 0 ([],a1))) fun (v4 : (List ApiBlock))=>some v4
theorem po_numbered_spec {a0 : (List ApiBlock)} {a1 : Int} {y : (List ApiBlock)} (h : po_numbered a0 a1 = some y) : Spec gP 21 [.d (.list (List.map encApiBlock a0)),.d (.int .i64 a1)] (.d (.list (List.map encApiBlock y))) := by
 refine spec_mir Tryz.func21 rfl (by kernel_rfl) (by kernel_rfl) (fun y : (List ApiBlock)=>.d (.list (List.map encApiBlock y))) ?_ h
 unfold po_numbered
 simp only [List.replicate,List.length,nS,nA,Tryz.ntmps21,SV]
 refine .sR fun e h=>?_
 simp only [seval,EMB]
 refine mU e (.sR fun e h=>?_) h
 simp only [seval,EMB]
 refine mU e (.sR fun e h=>?_) h
 simp only [seval,EMB]
 refine mU e (.seqK (.sR fun e h=>?_)) h
 simp only [seval,EMB,und_31]
 refine mU e (.gh [.slot 5 48] rfl (Mir.joinO (fun v4 : (List ApiBlock)=>([U,U,U,U,U,.own 0 (List.map encApiBlock v4)] ++ us 40)) (fun v4=>⟨[],[(48,v4.length)]⟩) (fun _=>rfl) ?_ ?_)) h
 refine .block (.guard fun q1=>Mir.range (fun (i1 : Nat) (v1 : (List ApiBlock) × Int)=>([U,.d (.int .i64 a1),U,U,U,.own 0 (List.map encApiBlock v1.1),.d (.int .i64 v1.2),U,U,U,U,U,.d (.list (List.map encApiBlock a0)),.d (.int .i64 (a0.length : Int)),.d (.int .i64 (i1 : Int))] ++ us 31)) (fun i1 v1=>⟨[],[(48,v1.1.length)]⟩) q1 (fun _ _=>rfl) (by simp only [seval,FMB,zNI]) (by simp only [seval,FMB,zNI]) ?_ ?_)
 intro i1 e1 v1 q2
 refine .sR fun e h=>?_
 simp only [seval,EMB,q2]
 refine mU e (.seqK (.condT rfl (.skip (Mir.toK (.seqK (.block (.sR fun e h=>?_))))))) h
 simp only [seval,EMB,und_31,sz_48,q2,Int.toNat_natCast,ag_48,zero_48]
 refine mU e (.seqK (.seqK (.bind fun y1 h1=>.region fun e h=>?_))) h
 simp only [seval,EMB,ag_48,sz_48]
 refine SpecS.by (bk_Find_spec h1) (by simp only [seval,FMB]) ?_
 simp only [seval,EMB]
 refine mU e (.seqK (Mir.joinO (fun v2 : Bool=>([U,.d (.int .i64 a1),U,U,U,.own 0 (List.map encApiBlock v1.1),.d (.int .i64 v1.2),U,.ptr 0 0,U,U,U,.d (.list (List.map encApiBlock a0)),.d (.int .i64 (a0.length : Int)),.d (.int .i64 (i1 : Int)),U,U,U,U,U,U,U,U,U,U,U,U,U,U,.d (.bool v2)] ++ us 16)) (fun v2=>⟨[[.d (.bool e1.Skip),.d (.list (List.map encApiWord e1.Words)),.d (.str e1.Comment)]],[(48,v1.1.length)]⟩) (fun _=>rfl) ?_ ?_)) h
 refine .ite (fun h2=>?_) (fun h2=>?_)
 refine .region fun e h=>?_
 simp only [seval,EMB,h2]
 cases h
 simp only [seval,FMB,h2]
 refine .bind fun y2 h3=>.region fun e h=>?_
 simp only [seval,EMB,ag_48,sz_48,h2]
 refine SpecS.by (po_returns_spec h3) (by simp only [seval,FMB,h2]) ?_
 simp only [seval,EMB,h2]
 cases h
 simp only [seval,FMB,h2]
 intro v2
 refine Mir.toK (Mir.joinO (fun v3 : Int × (List ApiWord)=>([U,.d (.int .i64 a1),U,U,U,.own 0 (List.map encApiBlock v1.1),.d (.int .i64 v3.1),U,.ptr 0 0,U,U,U,.d (.list (List.map encApiBlock a0)),.d (.int .i64 (a0.length : Int)),.d (.int .i64 (i1 : Int))] ++ us 31)) (fun v3=>⟨[[.d (.bool e1.Skip),.d (.list (List.map encApiWord v3.2)),.d (.str e1.Comment)]],[(48,v1.1.length)]⟩) (fun _=>rfl) ?_ ?_)
 refine .cond rfl (fun h4=>?_) (fun h4=>?_)
 refine .seqK (.bind fun y3 h5=>.guard fun q3=>Mir.regionA 0 [] ([U,.d (.int .i64 a1),U,U,U,.own 0 (List.map encApiBlock v1.1),.d (.int .i64 v1.2),U,.ptr 0 0,U,U,U,.d (.list (List.map encApiBlock a0)),.d (.int .i64 (a0.length : Int)),.d (.int .i64 (i1 : Int)),U,U,U,U,U,U,U,U,U,U,U,U,U,U,.d (.bool v2),.d (.int .i64 v1.2),.agg [.d (.int .u8 y3.Letter),.d (.int .i64 y3.Value)],.own 1 (List.map encApiWord [y3]),.ptr 0 1,.d (.list (List.map encApiWord e1.Words)),.own 1 (List.map encApiWord ([y3] ++ e1.Words)),.ptr 0 1] ++ us 9) ⟨[[.d (.bool e1.Skip),.own 1 (List.map encApiWord ([y3] ++ e1.Words)),.d (.str e1.Comment)]],[(48,v1.1.length),(83,1 + e1.Words.length)]⟩ (by kernel_rfl) (fun e h=>?_) (fun e h=>?_))
 simp only [seval,EMB,w_none,w_eq,SB]
 refine regA.pureB (j := 0) (d := 30) (by kernel_rfl) rfl rfl (by kernel_rfl) rfl rfl (Nat.le_of_ble_eq_true rfl) ?_
 simp only [seval,EMB,w_none,w_eq]
 refine ⟨rfl,?_⟩
 refine regA.two (j := 1) (k := 3) (by kernel_rfl) rfl rfl ?_ ?_
 refine regW.of ?_
 simp only [seval,EMB,w_none,w_eq]
 refine SpecS.by (po_whole_spec h5) (by simp only [seval,FMB]) ?_
 simp only [seval,EMB,w_none,w_eq]
 refine regA.two (j := 2) (k := 3) (by kernel_rfl) rfl rfl ?_ ?_
 refine regW.alt 0 rfl ?_
 simp only [seval,EMB,w_none,w_eq]
 refine alt_litOwn (es := List.map encApiWord [y3]) app_46 (by simp only [seval,EMB,und_46,sz_83,zero_83,(oL 2)]) (by decide) (regW.of ?_)
 simp only [seval,EMB,w_none,w_eq,und_46,sz_83,zero_83,(oL 2)]
 refine regA.one (j := 3) (by kernel_rfl) rfl (regW.of ?_)
 simp only [seval,EMB,w_none,w_eq,fld_48_1,sz_46]
 refine regA.one (j := 4) (by kernel_rfl) rfl (regW.of ?_)
 simp only [seval,EMB,w_none,w_eq,ag_46,sz_46]
 refine regA.one (j := 5) (by kernel_rfl) rfl (regW.of ?_)
 simp only [seval,EMB,w_none,w_eq,app_46,al_ApiWord,q3]
 refine regA.one (j := 6) (by kernel_rfl) rfl (regW.of ?_)
 simp only [seval,EMB,w_none,w_eq,fld_48_1,sz_46]
 refine regA.one (j := 7) (by kernel_rfl) rfl (regW.of ?_)
 simp only [seval,EMB,w_none,w_eq,sz_46]
 exact regA.nil (by kernel_rfl) ⟨by first | rfl | simp only [seval,FMB,xMA,xLA],by first | rfl | simp only [seval,FMB,xMA,xLA]⟩
 refine regW.of ?_
 simp only [seval,EMB,w_none,w_eq,fld_48_1,sz_46]
 refine regA.two (j := 2) (k := 4) (by kernel_rfl) rfl rfl ?_ ?_
 refine regW.alt 0 rfl ?_
 simp only [seval,EMB,w_none,w_eq]
 refine alt_litOwn (es := List.map encApiWord [y3]) app_46 (by simp only [seval,EMB,und_46,sz_83,zero_83,(oL 2)]) (by decide) (regW.of ?_)
 simp only [seval,EMB,w_none,w_eq,und_46,sz_83,zero_83,(oL 2)]
 refine regA.one (j := 4) (by kernel_rfl) rfl (regW.of ?_)
 simp only [seval,EMB,w_none,w_eq,ag_46,sz_46]
 refine regA.one (j := 5) (by kernel_rfl) rfl (regW.of ?_)
 simp only [seval,EMB,w_none,w_eq,app_46,al_ApiWord,q3]
 refine regA.one (j := 6) (by kernel_rfl) rfl (regW.of ?_)
 simp only [seval,EMB,w_none,w_eq,fld_48_1,sz_46]
 refine regA.one (j := 7) (by kernel_rfl) rfl (regW.of ?_)
 simp only [seval,EMB,w_none,w_eq,sz_46]
 exact regA.nil (by kernel_rfl) ⟨by first | rfl | simp only [seval,FMB,xMA,xLA],by first | rfl | simp only [seval,FMB,xMA,xLA]⟩
 refine regW.of ?_
 simp only [seval,EMB,w_none,w_eq,ag_46,sz_46]
 refine regA.one (j := 2) (by kernel_rfl) rfl (regW.alt 0 rfl ?_)
 simp only [seval,EMB,w_none,w_eq]
 refine alt_litOwn (es := List.map encApiWord [y3]) app_46 (by simp only [seval,EMB,und_46,sz_83,zero_83,(oL 2)]) (by decide) (regW.of ?_)
 simp only [seval,EMB,w_none,w_eq,und_46,sz_83,zero_83,(oL 2)]
 refine regA.one (j := 5) (by kernel_rfl) rfl (regW.of ?_)
 simp only [seval,EMB,w_none,w_eq,app_46,al_ApiWord,q3]
 refine regA.one (j := 6) (by kernel_rfl) rfl (regW.of ?_)
 simp only [seval,EMB,w_none,w_eq,fld_48_1,sz_46]
 refine regA.one (j := 7) (by kernel_rfl) rfl (regW.of ?_)
 simp only [seval,EMB,w_none,w_eq,sz_46]
 exact regA.nil (by kernel_rfl) ⟨by first | rfl | simp only [seval,FMB,xMA,xLA],by first | rfl | simp only [seval,FMB,xMA,xLA]⟩
 refine regW.of ?_
 simp only [seval,EMB,w_none,w_eq,fld_48_1,sz_46]
 refine regA.two (j := 1) (k := 4) (by kernel_rfl) rfl rfl ?_ ?_
 refine regW.of ?_
 simp only [seval,EMB,w_none,w_eq]
 refine SpecS.by (po_whole_spec h5) (by simp only [seval,FMB]) ?_
 simp only [seval,EMB,w_none,w_eq]
 refine regA.two (j := 2) (k := 4) (by kernel_rfl) rfl rfl ?_ ?_
 refine regW.alt 0 rfl ?_
 simp only [seval,EMB,w_none,w_eq]
 refine alt_litOwn (es := List.map encApiWord [y3]) app_46 (by simp only [seval,EMB,und_46,sz_83,zero_83,(oL 2)]) (by decide) (regW.of ?_)
 simp only [seval,EMB,w_none,w_eq,und_46,sz_83,zero_83,(oL 2)]
 refine regA.one (j := 4) (by kernel_rfl) rfl (regW.of ?_)
 simp only [seval,EMB,w_none,w_eq,ag_46,sz_46]
 refine regA.one (j := 5) (by kernel_rfl) rfl (regW.of ?_)
 simp only [seval,EMB,w_none,w_eq,app_46,al_ApiWord,q3]
 refine regA.one (j := 6) (by kernel_rfl) rfl (regW.of ?_)
 simp only [seval,EMB,w_none,w_eq,fld_48_1,sz_46]
 refine regA.one (j := 7) (by kernel_rfl) rfl (regW.of ?_)
 simp only [seval,EMB,w_none,w_eq,sz_46]
 exact regA.nil (by kernel_rfl) ⟨by first | rfl | simp only [seval,FMB,xMA,xLA],by first | rfl | simp only [seval,FMB,xMA,xLA]⟩
 refine regW.of ?_
 simp only [seval,EMB,w_none,w_eq,ag_46,sz_46]
 refine regA.one (j := 2) (by kernel_rfl) rfl (regW.alt 0 rfl ?_)
 simp only [seval,EMB,w_none,w_eq]
 refine alt_litOwn (es := List.map encApiWord [y3]) app_46 (by simp only [seval,EMB,und_46,sz_83,zero_83,(oL 2)]) (by decide) (regW.of ?_)
 simp only [seval,EMB,w_none,w_eq,und_46,sz_83,zero_83,(oL 2)]
 refine regA.one (j := 5) (by kernel_rfl) rfl (regW.of ?_)
 simp only [seval,EMB,w_none,w_eq,app_46,al_ApiWord,q3]
 refine regA.one (j := 6) (by kernel_rfl) rfl (regW.of ?_)
 simp only [seval,EMB,w_none,w_eq,fld_48_1,sz_46]
 refine regA.one (j := 7) (by kernel_rfl) rfl (regW.of ?_)
 simp only [seval,EMB,w_none,w_eq,sz_46]
 exact regA.nil (by kernel_rfl) ⟨by first | rfl | simp only [seval,FMB,xMA,xLA],by first | rfl | simp only [seval,FMB,xMA,xLA]⟩
 refine regW.of ?_
 simp only [seval,EMB,w_none,w_eq,ag_46,sz_46]
 refine regA.one (j := 1) (by kernel_rfl) rfl (regW.of ?_)
 simp only [seval,EMB,w_none,w_eq]
 refine SpecS.by (po_whole_spec h5) (by simp only [seval,FMB]) ?_
 simp only [seval,EMB,w_none,w_eq]
 refine regA.one (j := 2) (by kernel_rfl) rfl (regW.alt 0 rfl ?_)
 simp only [seval,EMB,w_none,w_eq]
 refine alt_litOwn (es := List.map encApiWord [y3]) app_46 (by simp only [seval,EMB,und_46,sz_83,zero_83,(oL 2)]) (by decide) (regW.of ?_)
 simp only [seval,EMB,w_none,w_eq,und_46,sz_83,zero_83,(oL 2)]
 refine regA.one (j := 5) (by kernel_rfl) rfl (regW.of ?_)
 simp only [seval,EMB,w_none,w_eq,app_46,al_ApiWord,q3]
 refine regA.one (j := 6) (by kernel_rfl) rfl (regW.of ?_)
 simp only [seval,EMB,w_none,w_eq,fld_48_1,sz_46]
 refine regA.one (j := 7) (by kernel_rfl) rfl (regW.of ?_)
 simp only [seval,EMB,w_none,w_eq,sz_46]
 exact regA.nil (by kernel_rfl) ⟨by first | rfl | simp only [seval,FMB,xMA,xLA],by first | rfl | simp only [seval,FMB,xMA,xLA]⟩
 refine mU e (.region fun e h=>?_) h
 simp only [seval,EMB]
 cases h
 simp only [seval,FMB,Tryz.results21]
 refine .skip fun e h=>?_
 cases h
 simp only [seval,FMB,Tryz.results21]
 intro v3
 refine Mir.toK (.guard fun q4=>.region fun e h=>?_)
 simp only [seval,EMB,ag_48,sz_48,und_31,zero_48,(oL 3),app_31,al_ApiBlock,q4]
 refine mU e (.region fun e h=>?_) h
 simp only [seval,EMB]
 cases h
 simp only [seval,FMB,Tryz.results21,q2]
 intro v1 q5
 refine .sR fun e h=>?_
 simp only [seval,EMB,q5]
 refine mU e (.seqK (.condF rfl (.exit fun e h=>?_))) h
 cases h
 simp only [seval,FMB,Tryz.results21]
 intro v4
 refine Mir.toK (.sR fun e h=>?_)
 simp only [seval,EMB]
 refine mU e (.ret fun e h=>?_) h
 cases h
 simp only [seval,FMB,Tryz.results21]
def po_Blocks (a0 : (List ApiStage)) (a1 : ApiPos) (a2 : PostOptions) : Option ((List ApiBlock) × Int) := bindO (po_Valid a2) fun (y1 : Int)=>if (y1 != 0) = true then some ([],y1) else bindO (po_plain a0 a1 a2) fun (y2 : (List ApiBlock) × Int)=>if (y2.2 != 0) = true then some ([],y2.2) else bindX (if a2.Compress = true then bindO (md_New ) fun (y3 : ModalState)=>bindO (md_Compress y3 y2.1) fun (y4 : (List ApiBlock) × Int)=>if (y4.2 != 0) = true then some (.ret ([],y4.2)) else some (.go y4.1) else some (.go y2.1)) fun (v1 : (List ApiBlock))=>bindX (if (a2.Fold != 0) = true then bindO (sp_Fold v1 1000 a2.Fold) fun (y5 : SubprogramProgram × Int)=>if (y5.2 != 0) = true then some (.ret ([],y5.2)) else bindO (sp_Join y5.1) fun (y6 : (List ApiBlock))=>some (.go y6) else some (.go v1)) fun (v2 : (List ApiBlock))=>if (decide ((v2.length : Int) > 20000)) = true then some ([],3) else bindO (if (a2.Numbers != 0) = true then bindO (po_numbered v2 a2.Numbers) fun (y7 : (List ApiBlock))=>some y7 else some v2) fun (v3 : (List ApiBlock))=>some (v3,0)
theorem po_Blocks_spec {a0 : (List ApiStage)} {a1 : ApiPos} {a2 : PostOptions} {y : (List ApiBlock) × Int} (h : po_Blocks a0 a1 a2 = some y) : Spec gP 6 [.d (.list (List.map encApiStage a0)),.agg [.d (.int .i64 a1.X),.d (.int .i64 a1.Y),.d (.int .i64 a1.Z)],.agg [.d (.int .i64 a2.Work),.d (.bool a2.Compress),.d (.int .i64 a2.Numbers),.d (.int .i64 a2.Fold)]] (.tuple [.d (.list (List.map encApiBlock y.1)),.d (.int .i64 y.2)]) := by
 refine spec_mir Tryz.func6 rfl (by kernel_rfl) (by kernel_rfl) (fun y : (List ApiBlock) × Int=>.tuple [.d (.list (List.map encApiBlock y.1)),.d (.int .i64 y.2)]) ?_ h
 unfold po_Blocks
 simp only [List.replicate,List.length,nS,nA,Tryz.ntmps6,SV]
 refine .sR fun e h=>?_
 simp only [seval,EMB]
 refine mU e (.seqK (.seqK (.bind fun y1 hy1=>.region fun e h=>?_))) h
 simp only [seval,EMB,ag_35,sz_35]
 refine SpecS.by (po_Valid_spec hy1) (by simp only [seval,FMB]) ?_
 simp only [seval,EMB]
 refine mU e (.sR fun e h=>?_) h
 simp only [seval,EMB]
 refine mU e (.cond rfl (fun hb3=>?_) (fun hb3=>?_)) h
 refine .sR fun e h=>?_
 simp only [seval,EMB]
 refine mU e (.ret fun e h=>?_) h
 cases h
 simp only [seval,FMB,Tryz.results6]
 refine .skip (Mir.toK (.seqK (.bind fun y2 hy4=>.region fun e h=>?_)))
 simp only [seval,EMB,ag_24,sz_24,ag_35,sz_35]
 refine SpecS.by (po_plain_spec hy4) (by simp only [seval,FMB]) ?_
 simp only [seval,EMB]
 refine mU e (.seqK (.sR fun e h=>?_)) h
 simp only [seval,EMB]
 refine mU e (.cond rfl (fun hb6=>?_) (fun hb6=>?_)) h
 refine .sR fun e h=>?_
 simp only [seval,EMB]
 refine mU e (.ret fun e h=>?_) h
 cases h
 simp only [seval,FMB,Tryz.results6]
 refine .skip (Mir.toK (.seqK (.sR fun e h=>?_)))
 simp only [seval,EMB,fld_35_1,sz_4,ag_4]
 refine mU e (Mir.join (fun v1 : (List ApiBlock)=>([U,U,U,U,U,.ptr 1 0,U,U,U,.d (.list (List.map encApiBlock v1))] ++ us 55)) (fun v1=>⟨[[.d (.int .i64 a1.X),.d (.int .i64 a1.Y),.d (.int .i64 a1.Z)],[.d (.int .i64 a2.Work),.d (.bool a2.Compress),.d (.int .i64 a2.Numbers),.d (.int .i64 a2.Fold)]],[]⟩) (fun _=>rfl) ?_ ?_) h
 refine .cond rfl (fun hb11=>?_) (fun hb11=>?_)
 refine .seqK (.bind fun y3 hy12=>.bind fun y4 hy13=>.region fun e h=>?_)
 simp only [seval,EMB]
 refine SpecS.by (md_New_spec hy12) (rfl) ?_
 simp only [seval,EMB]
 refine SpecS.by (md_Compress_spec hy13) (by simp only [seval,FMB]) ?_
 simp only [seval,EMB]
 refine mU e (.sR fun e h=>?_) h
 simp only [seval,EMB]
 refine mU e (.cond rfl (fun hb14=>?_) (fun hb14=>?_)) h
 refine .sR fun e h=>?_
 simp only [seval,EMB]
 refine mU e (.ret fun e h=>?_) h
 cases h
 simp only [seval,FMB,Tryz.results6]
 refine .skip fun e h=>?_
 cases h
 simp only [seval,FMB,Tryz.results6]
 refine .skip fun e h=>?_
 cases h
 simp only [seval,FMB,Tryz.results6]
 intro v1
 refine Mir.toK (.seqK (.sR fun e h=>?_))
 simp only [seval,EMB,fld_35_3,sz_3,ag_3]
 refine mU e (Mir.join (fun v2 : (List ApiBlock)=>([U,U,U,U,U,.ptr 1 0,U,U,U,.d (.list (List.map encApiBlock v2))] ++ us 55)) (fun v2=>⟨[[.d (.int .i64 a1.X),.d (.int .i64 a1.Y),.d (.int .i64 a1.Z)],[.d (.int .i64 a2.Work),.d (.bool a2.Compress),.d (.int .i64 a2.Numbers),.d (.int .i64 a2.Fold)]],[]⟩) (fun _=>rfl) ?_ ?_) h
 refine .cond rfl (fun hb20=>?_) (fun hb20=>?_)
 refine .seqK (.bind fun y5 hy21=>.region fun e h=>?_)
 simp only [seval,EMB,fld_35_3,sz_3,ag_3]
 refine SpecS.by (sp_Fold_spec hy21) (by simp only [seval,FMB]) ?_
 simp only [seval,EMB,zero_38,sz_38]
 refine mU e (.seqK (.sR fun e h=>?_)) h
 simp only [seval,EMB]
 refine mU e (.cond rfl (fun hb23=>?_) (fun hb23=>?_)) h
 refine .sR fun e h=>?_
 simp only [seval,EMB]
 refine mU e (.ret fun e h=>?_) h
 cases h
 simp only [seval,FMB,Tryz.results6]
 refine .skip (Mir.toK (.bind fun y6 hy24=>.region fun e h=>?_))
 simp only [seval,EMB,ag_38,sz_38]
 refine SpecS.by (sp_Join_spec hy24) (by simp only [seval,FMB]) ?_
 simp only [seval,EMB]
 cases h
 simp only [seval,FMB,Tryz.results6]
 refine .skip fun e h=>?_
 cases h
 simp only [seval,FMB,Tryz.results6]
 intro v2
 refine Mir.toK (.seqK (.sR fun e h=>?_))
 simp only [seval,EMB,und_31]
 refine mU e (.cond rfl (fun hb26=>?_) (fun hb26=>?_)) h
 refine .sR fun e h=>?_
 simp only [seval,EMB]
 refine mU e (.ret fun e h=>?_) h
 cases h
 simp only [seval,FMB,Tryz.results6]
 refine .skip (Mir.toK (.seqK (.sR fun e h=>?_)))
 simp only [seval,EMB,fld_35_2,sz_2,ag_2]
 refine mU e (Mir.joinO (fun v3 : (List ApiBlock)=>([U,U,U,U,U,U,U,U,U,.d (.list (List.map encApiBlock v3))] ++ us 55)) (fun v3=>⟨[[.d (.int .i64 a1.X),.d (.int .i64 a1.Y),.d (.int .i64 a1.Z)],[.d (.int .i64 a2.Work),.d (.bool a2.Compress),.d (.int .i64 a2.Numbers),.d (.int .i64 a2.Fold)]],[]⟩) (fun _=>rfl) ?_ ?_) h
 refine .cond rfl (fun hb29=>?_) (fun hb29=>?_)
 refine .bind fun y7 hy30=>.region fun e h=>?_
 simp only [seval,EMB,fld_35_2,sz_2,ag_2]
 refine SpecS.by (po_numbered_spec hy30) (by simp only [seval,FMB]) ?_
 simp only [seval,EMB]
 cases h
 simp only [seval,FMB,Tryz.results6]
 refine .skip fun e h=>?_
 cases h
 simp only [seval,FMB,Tryz.results6]
 intro v3
 refine Mir.toK (.sR fun e h=>?_)
 simp only [seval,EMB]
 refine mU e (.ret fun e h=>?_) h
 cases h
 simp only [seval,FMB,Tryz.results6]
def bk_printable (a0 : Int) : Option Bool := some ((decide (a0 ≥ 32)) && ((decide (a0 ≤ 126)) && ((a0 != 40) && (a0 != 41))))
theorem bk_printable_spec {a0 : Int} {y : Bool} (h : bk_printable a0 = some y) : Spec gP 94 [.d (.int .u8 a0)] (.d (.bool y)) := by
 refine spec_mir Tryz.func94 rfl (by kernel_rfl) (by kernel_rfl) (fun y : Bool=>.d (.bool y)) ?_ h
 unfold bk_printable
 simp only [List.replicate,List.length,nS,nA,Tryz.ntmps94,SV]
 refine .sR fun e h=>?_
 simp only [seval,EMB]
 refine mU e (.seqK (.joinV ([U,U,.d (.bool ((decide (a0 ≥ 32)) && ((decide (a0 ≤ 126)) && ((a0 != 40) && (a0 != 41)))))] ++ us 14) ⟨[],[]⟩ rfl ?_ ?_)) h
 refine SWs.region ?_
 rcases Bool.eq_false_or_eq_true (decide (a0 ≥ 32)) with hb1 | hb1
 rcases Bool.eq_false_or_eq_true (decide (a0 ≤ 126)) with hb2 | hb2
 rcases Bool.eq_false_or_eq_true (a0 != 40) with hb3 | hb3
 simp only [seval,EMB,SL,PB,hb1,hb2,hb3]
 simp only [seval,EMB,SL,PB,hb1,hb2,hb3]
 simp only [seval,EMB,SL,PB,hb1,hb2]
 simp only [seval,EMB,SL,PB,hb1]
 refine Mir.toK (.ret fun e h=>?_)
 cases h
 simp only [seval,FMB,Tryz.results94]
def bk_Valid (a0 : ApiBlock) : Option Int := if ((decide ((a0.Words.length : Int) > 16)) || (decide ((a0.Comment.length : Int) > 100))) = true then some 1 else bindX (guardO (okIdx a0.Words) ( rangeX (fun (i1 : Nat) (e1 : ApiWord) (v1 : Unit)=>if ((decide (e1.Letter < 65)) || ((decide (e1.Letter > 90)) || ((decide (e1.Value > 1000000000000)) || (decide (e1.Value < (-1000000000000)))))) = true then some (.ret (.ret 1)) else some (.go ())) (fun (v1 : Unit)=>some (.go ())) a0.Words 0 ())) fun (v2 : Unit)=>bindX (guardO (okIdx (bytesI a0.Comment)) ( rangeX (fun (i2 : Nat) (e2 : Int) (v3 : Unit)=>bindO (bk_printable e2) fun (y1 : Bool)=>if (!y1) = true then some (.ret (.ret 1)) else some (.go ())) (fun (v3 : Unit)=>some (.go ())) (bytesI a0.Comment) 0 ())) fun (v4 : Unit)=>some 0
theorem bk_Valid_spec {a0 : ApiBlock} {y : Int} (h : bk_Valid a0 = some y) : Spec gP 86 [.agg [.d (.bool a0.Skip),.d (.list (List.map encApiWord a0.Words)),.d (.str a0.Comment)]] (.d (.int .i64 y)) := by
 refine spec_mir Tryz.func86 rfl (by kernel_rfl) (by kernel_rfl) (fun y : Int=>.d (.int .i64 y)) ?_ h
 unfold bk_Valid
 simp only [List.replicate,List.length,nS,nA,Tryz.ntmps86,SV]
 refine .sR fun e h=>?_
 simp only [seval,EMB,eInt]
 refine mU e (.seqK (.seqK (.joinV ([U,.ptr 0 0,U,U,U,U,U,U,U,U,U,U,U,U,U,U,.d (.bool ((decide ((a0.Words.length : Int) > 16)) || (decide ((a0.Comment.length : Int) > 100))))] ++ us 38) ⟨[[.d (.bool a0.Skip),.d (.list (List.map encApiWord a0.Words)),.d (.str a0.Comment)]],[]⟩ rfl ?_ ?_))) h
 refine SWs.region ?_
 rcases Bool.eq_false_or_eq_true (decide ((a0.Words.length : Int) > 16)) with hb1 | hb1
 simp only [seval,EMB,SL,PB,fld_48_1,sz_46,ag_46,und_46,hb1,eInt]
 simp only [seval,EMB,SL,PB,fld_48_1,sz_46,ag_46,und_46,fld_48_2,sz_9,ag_9,und_9,hb1,eInt]
 refine Mir.toK (.cond rfl (fun hb3=>?_) (fun hb3=>?_))
 refine .sR fun e h=>?_
 simp only [seval,EMB]
 refine mU e (.ret fun e h=>?_) h
 cases h
 simp only [seval,FMB,Tryz.results86]
 refine .skip (Mir.toK (.seqK (.sR fun e h=>?_)))
 simp only [seval,EMB,fld_48_1,sz_46,ag_46,und_46,eInt]
 refine mU e (Mir.join (fun v2 : Unit=>([U,.ptr 0 0] ++ us 53)) (fun v2=>⟨[[.d (.bool a0.Skip),.d (.list (List.map encApiWord a0.Words)),.d (.str a0.Comment)]],[]⟩) (fun _=>rfl) ?_ ?_) h
 refine .block (.guard fun qg96=>Mir.range (fun (i1 : Nat) (v1 : Unit)=>([U,.ptr 0 0,U,U,U,U,U,U,U,U,U,U,U,U,U,U,U,U,.d (.list (List.map encApiWord a0.Words)),.d (.int .i64 (a0.Words.length : Int)),.d (.int .i64 (i1 : Int))] ++ us 34)) (fun i1 v1=>⟨[[.d (.bool a0.Skip),.d (.list (List.map encApiWord a0.Words)),.d (.str a0.Comment)]],[]⟩) qg96 (fun _ _=>rfl) (by simp only [seval,FMB,zNI]) (by simp only [seval,FMB,zNI]) ?_ ?_)
 intro i1 e1 v1 qr94
 refine .sR fun e h=>?_
 simp only [seval,EMB,qr94]
 refine mU e (.seqK (.condT rfl (.skip (Mir.toK (.seqK (.block (.sR fun e h=>?_))))))) h
 simp only [seval,EMB,und_46,sz_83,qr94,Int.toNat_natCast,ag_83,zero_83]
 refine mU e (.seqK (.joinV ([U,.ptr 0 0,U,U,U,U,U,U,U,U,U,U,U,U,U,U,U,U,.d (.list (List.map encApiWord a0.Words)),.d (.int .i64 (a0.Words.length : Int)),.d (.int .i64 (i1 : Int)),U,U,U,U,U,U,U,U,U,U,U,U,U,U,U,U,U,U,U,U,.d (.bool ((decide (e1.Letter < 65)) || ((decide (e1.Letter > 90)) || ((decide (e1.Value > 1000000000000)) || (decide (e1.Value < (-1000000000000)))))))] ++ us 13) ⟨[[.d (.bool a0.Skip),.d (.list (List.map encApiWord a0.Words)),.d (.str a0.Comment)],[.d (.int .u8 e1.Letter),.d (.int .i64 e1.Value)]],[]⟩ rfl ?_ ?_)) h
 refine SWs.region ?_
 rcases Bool.eq_false_or_eq_true (decide (e1.Letter < 65)) with h1 | h1
 simp only [seval,EMB,SL,PB,fld_83_0,sz_5,ag_5,h1]
 rcases Bool.eq_false_or_eq_true (decide (e1.Letter > 90)) with h2 | h2
 simp only [seval,EMB,SL,PB,fld_83_0,sz_5,ag_5,h1,h2]
 rcases Bool.eq_false_or_eq_true (decide (e1.Value > 1000000000000)) with h3 | h3
 simp only [seval,EMB,SL,PB,fld_83_0,sz_5,ag_5,fld_83_1,sz_2,ag_2,h1,h2,h3]
 simp only [seval,EMB,SL,PB,fld_83_0,sz_5,ag_5,fld_83_1,sz_2,ag_2,h1,h2,h3]
 refine Mir.toK (.cond rfl (fun h4=>?_) (fun h4=>?_))
 refine .sR fun e h=>?_
 simp only [seval,EMB]
 refine mU e (.ret fun e h=>?_) h
 cases h
 simp only [seval,FMB,Tryz.results86]
 refine .skip (Mir.toB (Mir.toK (.region fun e h=>?_)))
 simp only [seval,EMB]
 cases h
 simp only [seval,FMB,Tryz.results86,qr94]
 intro v1 qd95
 refine .sR fun e h=>?_
 simp only [seval,EMB,qd95]
 refine mU e (.seqK (.condF rfl (.exit fun e h=>?_))) h
 cases h
 simp only [seval,FMB,Tryz.results86]
 intro v2
 refine Mir.toK (.seqK (.sR fun e h=>?_))
 simp only [seval,EMB,fld_48_2,sz_9,ag_9,und_9,und_130,und_5,bytes_enc,eInt]
 refine mU e (Mir.join (fun v4 : Unit=>(us 55)) (fun v4=>⟨[[.d (.bool a0.Skip),.d (.list (List.map encApiWord a0.Words)),.d (.str a0.Comment)]],[]⟩) (fun _=>rfl) ?_ ?_) h
 refine .block (.guard fun q1=>Mir.range (fun (i2 : Nat) (v3 : Unit)=>([U,U,U,U,U,U,U,U,U,U,U,U,U,U,U,U,U,U,U,U,U,U,U,U,U,U,U,U,U,U,U,U,U,U,U,U,U,U,U,U,U,U,U,U,U,.d (.list (List.map (eInt .u8) (bytesI a0.Comment))),.d (.int .i64 ((bytesI a0.Comment).length : Int)),.d (.int .i64 (i2 : Int))] ++ us 7)) (fun i2 v3=>⟨[[.d (.bool a0.Skip),.d (.list (List.map encApiWord a0.Words)),.d (.str a0.Comment)]],[]⟩) q1 (fun _ _=>rfl) (by simp only [seval,FMB,eInt,zNI]) (by simp only [seval,FMB,eInt,zNI]) ?_ ?_)
 intro i2 e2 v3 q2
 refine .sR fun e h=>?_
 simp only [seval,EMB,q2,eInt]
 refine mU e (.seqK (.condT rfl (.skip (Mir.toK (.seqK (.block (.sR fun e h=>?_))))))) h
 simp only [seval,EMB,und_130,sz_5,q2,Int.toNat_natCast,ag_5,eInt]
 refine mU e (.seqK (.bind fun y1 h5=>.region fun e h=>?_)) h
 simp only [seval,EMB,eInt]
 refine SpecS.by (bk_printable_spec h5) (by simp only [seval,FMB,eInt]) ?_
 simp only [seval,EMB,eInt]
 refine mU e (.cond rfl (fun h6=>?_) (fun h6=>?_)) h
 refine .sR fun e h=>?_
 simp only [seval,EMB,eInt]
 refine mU e (.ret fun e h=>?_) h
 cases h
 simp only [seval,FMB,eInt,Tryz.results86]
 refine .skip (Mir.toB (Mir.toK (.region fun e h=>?_)))
 simp only [seval,EMB,eInt]
 cases h
 simp only [seval,FMB,eInt,Tryz.results86,q2]
 intro v3 q3
 refine .sR fun e h=>?_
 simp only [seval,EMB,q3,eInt]
 refine mU e (.seqK (.condF rfl (.exit fun e h=>?_))) h
 cases h
 simp only [seval,FMB,eInt,Tryz.results86]
 intro v4
 refine Mir.toK (.sR fun e h=>?_)
 simp only [seval,EMB,eInt]
 refine mU e (.ret fun e h=>?_) h
 cases h
 simp only [seval,FMB,eInt,Tryz.results86]
def bk_Text (a0 : Int) : Option (List UInt8) := bindO (if (decide (a0 < 0)) = true then some (IntKind.u64.wrap (0 - (IntKind.u64.wrap a0)),[45]) else some (IntKind.u64.wrap a0,[])) fun (v1 : Int × (List UInt8))=>bindO (strconv_FormatUint (IntKind.u64.wrap (Int.tdiv v1.1 1000)) 10) fun (y1 : (List UInt8))=>guardO (okStr v1.2 y1) ( bindO (if (decide ((Int.tmod v1.1 1000) > 0)) = true then bindO (strconv_FormatUint (IntKind.u64.wrap (1000 + (Int.tmod v1.1 1000))) 10) fun (y2 : (List UInt8))=>bindO (cutF y2 1) fun (s1 : (List UInt8))=>bindO (strings_TrimRight s1 [48]) fun (y3 : (List UInt8))=>guardO (okStr [46] y3) ( guardO (okStr (v1.2 ++ y1) ([46] ++ y3)) ( some ((v1.2 ++ y1) ++ ([46] ++ y3)))) else some (v1.2 ++ y1)) fun (v2 : (List UInt8))=>some v2)
theorem bk_Text_spec {a0 : Int} {y : (List UInt8)} (h : bk_Text a0 = some y) : Spec gP 87 [.d (.int .i64 a0)] (.d (.str y)) := by
 refine spec_mir Tryz.func87 rfl (by kernel_rfl) (by kernel_rfl) (fun y : (List UInt8)=>.d (.str y)) ?_ h
 unfold bk_Text
 simp only [List.replicate,List.length,nS,nA,Tryz.ntmps87,SV]
 refine .sR fun e h=>?_
 simp only [seval,EMB]
 refine mU e (.sR fun e h=>?_) h
 simp only [seval,EMB,und_2,und_125]
 refine mU e (.seqK (.sR fun e h=>?_)) h
 simp only [seval,EMB]
 refine mU e (Mir.joinO (fun v1 : Int × (List UInt8)=>([U,U,U,.d (.int .u64 v1.1),.d (.str v1.2)] ++ us 26)) (fun v1=>⟨[],[]⟩) (fun _=>rfl) ?_ ?_) h
 refine .cond rfl (fun hb2=>?_) (fun hb2=>?_)
 refine .region fun e h=>?_
 simp only [seval,EMB]
 cases h
 simp only [seval,FMB,Tryz.results87]
 refine .skip fun e h=>?_
 cases h
 simp only [seval,FMB,Tryz.results87]
 intro v1
 refine Mir.toK (.seqK (.bind fun y1 hy3=>.guard fun q4=>?_))
 replace q4 := okStr_ok q4
 refine .region fun e h=>?_
 simp only [seval,EMB]
 refine SpecS.by (strconv_FormatUint_spec hy3) (by simp only [seval,FMB]) ?_
 simp only [seval,EMB,q4]
 refine mU e (.seqK (.sR fun e h=>?_)) h
 simp only [seval,EMB]
 refine mU e (.sR fun e h=>?_) h
 simp only [seval,EMB]
 refine mU e (Mir.joinO (fun v2 : (List UInt8)=>([U,U,U,U,U,.d (.str v2)] ++ us 25)) (fun v2=>⟨[],[]⟩) (fun _=>rfl) ?_ ?_) h
 refine .cond rfl (fun hb11=>?_) (fun hb11=>?_)
 refine .bind fun y2 hy12=>.bind fun s1 q13=>?_
 replace q13 := cutF_ok q13
 simp only [Int.reduceToNat,Int.reduceLT,Nat.sub_zero,dp0] at q13
 refine .bind fun y3 hy14=>.guard fun q15=>?_
 replace q15 := okStr_ok q15
 try simp only [lm,xNA,xCA,xAN,xLC,xLN,xAC,xAL,nA,Nat.zero_add] at q15
 refine .guard fun q16=>?_
 replace q16 := okStr_ok q16
 try simp only [lm,xNA,xCA,xAN,xLC,xLN,xAC,xAL,nA,Nat.zero_add] at q16
 refine .region fun e h=>?_
 simp only [seval,EMB]
 refine SpecS.by (strconv_FormatUint_spec hy12) (by simp only [seval,FMB]) ?_
 simp only [seval,EMB,und_9,q13,Nat.le_refl,and_true,true_and,dm,tm]
 refine SpecS.by (strings_TrimRight_spec hy14) (by simp only [seval,FMB]) ?_
 simp only [seval,EMB,q15,q16]
 cases h
 simp only [seval,FMB,Tryz.results87]
 refine .skip fun e h=>?_
 cases h
 simp only [seval,FMB,Tryz.results87]
 intro v2
 refine Mir.toK (.sR fun e h=>?_)
 simp only [seval,EMB]
 refine mU e (.ret fun e h=>?_) h
 cases h
 simp only [seval,FMB,Tryz.results87]
def bk_Format (a0 : ApiBlock) : Option ((List UInt8) × Int) := bindO (bk_Valid a0) fun (y1 : Int)=>if (y1 != 0) = true then some ([],y1) else bindO (guardO (okIdx a0.Words) ( rangeX (fun (i1 : Nat) (e1 : ApiWord) (v1 : (List (List UInt8)))=>bindO (bk_Text e1.Value) fun (y2 : (List UInt8))=>guardO (okStr (runeS (IntKind.i32.wrap e1.Letter)) y2) ( guardO (okLen (v1.length + 1)) ( some (.go (v1 ++ [(runeS (IntKind.i32.wrap e1.Letter)) ++ y2]))))) (fun (v1 : (List (List UInt8)))=>some v1) a0.Words 0 [])) fun (v2 : (List (List UInt8)))=>bindO (if (!(a0.Comment == [])) = true then guardO (okStr [40] a0.Comment) ( guardO (okStr ([40] ++ a0.Comment) [41]) ( guardO (okLen (v2.length + 1)) ( some (v2 ++ [([40] ++ a0.Comment) ++ [41]])))) else some v2) fun (v3 : (List (List UInt8)))=>bindO (strings_Join v3 [32]) fun (y3 : (List UInt8))=>bindO (if a0.Skip = true then guardO (okStr [47] y3) ( some ([47] ++ y3)) else some y3) fun (v4 : (List UInt8))=>some (v4,0)
theorem bk_Format_spec {a0 : ApiBlock} {y : (List UInt8) × Int} (h : bk_Format a0 = some y) : Spec gP 69 [.agg [.d (.bool a0.Skip),.d (.list (List.map encApiWord a0.Words)),.d (.str a0.Comment)]] (.tuple [.d (.str y.1),.d (.int .i64 y.2)]) := by
 refine spec_mir Tryz.func69 rfl (by kernel_rfl) (by kernel_rfl) (fun y : (List UInt8) × Int=>.tuple [.d (.str y.1),.d (.int .i64 y.2)]) ?_ h
 unfold bk_Format
 simp only [List.replicate,List.length,nS,nA,Tryz.ntmps69,SV]
 refine .sR fun e h=>?_
 simp only [seval,EMB,eStr]
 refine mU e (.seqK (.seqK (.bind fun y1 hy1=>.region fun e h=>?_))) h
 simp only [seval,EMB,ag_48,sz_48,eStr]
 refine SpecS.by (bk_Valid_spec hy1) (by simp only [seval,FMB,eStr]) ?_
 simp only [seval,EMB,eStr]
 refine mU e (.sR fun e h=>?_) h
 simp only [seval,EMB,eStr]
 refine mU e (.cond rfl (fun hb3=>?_) (fun hb3=>?_)) h
 refine .sR fun e h=>?_
 simp only [seval,EMB]
 refine mU e (.ret fun e h=>?_) h
 cases h
 simp only [seval,FMB,Tryz.results69]
 refine .skip (Mir.toK (.sR fun e h=>?_))
 simp only [seval,EMB,eStr]
 refine mU e (.seqK (.sR fun e h=>?_)) h
 simp only [seval,EMB,fld_48_1,sz_46,ag_46,und_46,eStr]
 refine mU e (.gh [.slot 5 9] rfl (Mir.joinO (fun v2 : (List (List UInt8))=>([U,.ptr 0 0,U,U,U,.own 0 (List.map eStr v2)] ++ us 44)) (fun v2=>⟨[[.d (.bool a0.Skip),.d (.list (List.map encApiWord a0.Words)),.d (.str a0.Comment)]],[(9,v2.length)]⟩) (fun _=>rfl) ?_ ?_)) h
 refine .block (.guard fun q1=>Mir.range (fun (i1 : Nat) (v1 : (List (List UInt8)))=>([U,.ptr 0 0,U,U,U,.own 0 (List.map eStr v1),U,U,U,U,U,U,U,U,U,.d (.list (List.map encApiWord a0.Words)),.d (.int .i64 (a0.Words.length : Int)),.d (.int .i64 (i1 : Int))] ++ us 32)) (fun i1 v1=>⟨[[.d (.bool a0.Skip),.d (.list (List.map encApiWord a0.Words)),.d (.str a0.Comment)]],[(9,v1.length)]⟩) q1 (fun _ _=>rfl) (by simp only [seval,FMB,eStr,zNI]) (by simp only [seval,FMB,eStr,zNI]) ?_ ?_)
 intro i1 e1 v1 q2
 refine .sR fun e h=>?_
 simp only [seval,EMB,q2,eStr]
 refine mU e (.seqK (.condT rfl (.skip (Mir.toK (.seqK (.block (.sR fun e h=>?_))))))) h
 simp only [seval,EMB,und_46,sz_83,q2,Int.toNat_natCast,ag_83,zero_83,eStr]
 refine mU e (.bind fun y2 h1=>.guard fun q3=>?_) h
 replace q3 := okStr_ok q3
 refine .guard fun q4=>.regionD [] (by kernel_rfl) fun e h=>?_
 simp only [seval,EMB,SB,fld_83_0,sz_5,ag_5,und_5,und_21,und_9,rune_enc,fld_83_1,sz_2,ag_2,eStr]
 refine Spec.by (bk_Text_spec h1) (by simp only [seval,FMB,eStr]) ?_
 simp only [seval,EMB,SB,q3,und_148,sz_9,zero_9,(oL 1),app_148,al_eStr,q4,eStr]
 refine mU e (.region fun e h=>?_) h
 simp only [seval,EMB,eStr]
 cases h
 simp only [seval,FMB,eStr,Tryz.results69,q2]
 intro v1 q5
 refine .sR fun e h=>?_
 simp only [seval,EMB,q5,eStr]
 refine mU e (.seqK (.condF rfl (.exit fun e h=>?_))) h
 cases h
 simp only [seval,FMB,eStr,Tryz.results69]
 intro v2
 refine Mir.toK (.seqK (.sR fun e h=>?_))
 simp only [seval,EMB,fld_48_2,sz_9,ag_9,eStr]
 refine mU e (Mir.joinO (fun v3 : (List (List UInt8))=>([U,.ptr 0 0,U,U,U,.own 0 (List.map eStr v3)] ++ us 44)) (fun v3=>⟨[[.d (.bool a0.Skip),.d (.list (List.map encApiWord a0.Words)),.d (.str a0.Comment)]],[(9,v3.length)]⟩) (fun _=>rfl) ?_ ?_) h
 refine .cond rfl (fun h2=>?_) (fun h2=>?_)
 refine .guard fun q6=>?_
 replace q6 := okStr_ok q6
 try simp only [lm,xNA,xCA,xAN,xLC,xLN,xAC,xAL,nA,Nat.zero_add] at q6
 refine .guard fun q7=>?_
 replace q7 := okStr_ok q7
 try simp only [lm,xNA,xCA,xAN,xLC,xLN,xAC,xAL,nA,Nat.zero_add] at q7
 refine .guard fun q8=>.region fun e h=>?_
 simp only [seval,EMB,fld_48_2,sz_9,ag_9,q6,q7,und_148,zero_9,(oL 1),app_148,al_eStr,q8,eStr]
 cases h
 simp only [seval,FMB,eStr,Tryz.results69]
 refine .skip fun e h=>?_
 cases h
 simp only [seval,FMB,eStr,Tryz.results69]
 intro v3
 refine Mir.toK (.seqK (.bind fun y3 h3=>.region fun e h=>?_))
 simp only [seval,EMB,eStr]
 refine SpecS.by (strings_Join_spec h3) (by simp only [seval,FMB,eStr]) ?_
 simp only [seval,EMB,eStr]
 refine mU e (.seqK (.sR fun e h=>?_)) h
 simp only [seval,EMB,fld_48_0,sz_4,ag_4,eStr]
 refine mU e (Mir.joinO (fun v4 : (List UInt8)=>([U,U,U,U,U,U,U,U,.d (.str v4)] ++ us 41)) (fun v4=>⟨[[.d (.bool a0.Skip),.d (.list (List.map encApiWord a0.Words)),.d (.str a0.Comment)]],[(9,v3.length)]⟩) (fun _=>rfl) ?_ ?_) h
 refine .cond rfl (fun h4=>?_) (fun h4=>?_)
 refine .guard fun q9=>?_
 replace q9 := okStr_ok q9
 try simp only [lm,xNA,xCA,xAN,xLC,xLN,xAC,xAL,nA,Nat.zero_add] at q9
 refine .region fun e h=>?_
 simp only [seval,EMB,q9,eStr]
 cases h
 simp only [seval,FMB,eStr,Tryz.results69]
 refine .skip fun e h=>?_
 cases h
 simp only [seval,FMB,eStr,Tryz.results69]
 intro v4
 refine Mir.toK (.sR fun e h=>?_)
 simp only [seval,EMB,eStr]
 refine mU e (.ret fun e h=>?_) h
 cases h
 simp only [seval,FMB,eStr,Tryz.results69]
def bk_Print (a0 : (List ApiBlock)) : Option ((List UInt8) × Int) := bindX (guardO (okIdx a0) ( rangeX (fun (i1 : Nat) (e1 : ApiBlock) (v1 : (List UInt8))=>bindO (bk_Format e1) fun (y1 : (List UInt8) × Int)=>if (y1.2 != 0) = true then some (.ret (.ret ([],y1.2))) else guardO (okLen (v1.length + y1.1.length)) ( guardO (okLen ((v1 ++ y1.1).length + 1)) ( some (.go (v1 ++ y1.1 ++ [10]))))) (fun (v1 : (List UInt8))=>some (.go v1)) a0 0 [])) fun (v2 : (List UInt8))=>some (v2,0)
theorem bk_Print_spec {a0 : (List ApiBlock)} {y : (List UInt8) × Int} (h : bk_Print a0 = some y) : Spec gP 41 [.d (.list (List.map encApiBlock a0))] (.tuple [.d (.str y.1),.d (.int .i64 y.2)]) := by
 refine spec_mir Tryz.func41 rfl (by kernel_rfl) (by kernel_rfl) (fun y : (List UInt8) × Int=>.tuple [.d (.str y.1),.d (.int .i64 y.2)]) ?_ h
 unfold bk_Print
 simp only [List.replicate,List.length,nS,nA,Tryz.ntmps41,SV]
 refine .sR fun e h=>?_
 simp only [seval,EMB]
 refine mU e (.seqK (.regionW fun e h=>regW.alt 0 rfl ?_)) h
 simp only [seval,EMB,w_none,w_eq]
 refine alt_allocB (e := 5) (zv := .agg #[.pointer none,.slice none 0 0]) rfl (by kernel_rfl) rfl (regW.of ?_)
 simp only [seval,EMB,w_none,w_eq]
 refine mU e (.seqK (.sR fun e h=>?_)) h
 simp only [seval,EMB,und_31]
 refine mU e (Mir.join (fun v2 : (List UInt8)=>([U,U,U,U,.ptr 0 0] ++ us 23)) (fun v2=>⟨[[.adr 0,.own 0 (List.map byteE v2)]],[(5,v2.length)]⟩) (fun _=>rfl) ?_ ?_) h
 refine .block (.guard fun q1=>Mir.range (fun (i1 : Nat) (v1 : (List UInt8))=>([U,U,U,U,.ptr 0 0,U,U,U,U,.d (.list (List.map encApiBlock a0)),.d (.int .i64 (a0.length : Int)),.d (.int .i64 (i1 : Int))] ++ us 16)) (fun i1 v1=>⟨[[.adr 0,.own 0 (List.map byteE v1)]],[(5,v1.length)]⟩) q1 (fun _ _=>rfl) (by simp only [seval,FMB,zNI]) (by simp only [seval,FMB,zNI]) ?_ ?_)
 intro i1 e1 v1 qr98
 refine .sR fun e h=>?_
 simp only [seval,EMB,qr98]
 refine mU e (.seqK (.condT rfl (.skip (Mir.toK (.seqK (.block (.sR fun e h=>?_))))))) h
 simp only [seval,EMB,und_31,sz_48,qr98,Int.toNat_natCast,ag_48,zero_48]
 refine mU e (.seqK (.bind fun y1 h1=>.region fun e h=>?_)) h
 simp only [seval,EMB,ag_48,sz_48]
 refine SpecS.by (bk_Format_spec h1) (by simp only [seval,FMB]) ?_
 simp only [seval,EMB]
 refine mU e (.seqK (.sR fun e h=>?_)) h
 simp only [seval,EMB]
 refine mU e (.cond rfl (fun h2=>?_) (fun h2=>?_)) h
 refine .sR fun e h=>?_
 simp only [seval,EMB]
 refine mU e (.ret fun e h=>?_) h
 cases h
 simp only [seval,FMB,Tryz.results41]
 refine .skip (Mir.toK (.seqK (.guard fun q2=>.region fun e h=>?_)))
 simp only [seval,EMB]
 refine specS_wsN (n := (v1 ++ y1.1).length) rfl (lns_at (by simp only [List.length_map,List.length_append,List.length_nil,List.length_cons,List.map_nil,List.map_cons,xOS,xON] <;> omega)) (ok2 q2 (by simp only [List.length_map,List.length_append,List.length_nil,List.length_cons,List.map_nil,List.map_cons,xOS,xON] <;> omega) rfl) (by simp only [List.length_map,List.length_append,List.length_nil,List.length_cons,List.map_nil,List.map_cons,xOS,xON] <;> omega) ?_
 simp only [seval,EMB]
 refine mU e (.guard fun q3=>.region fun e h=>?_) h
 simp only [seval,EMB]
 refine specS_wbN (b := 10) (n := (v1 ++ y1.1 ++ [10]).length) rfl rfl (lns_at (by simp only [List.length_map,List.length_append,List.length_nil,List.length_cons,List.map_nil,List.map_cons,xOS,xON] <;> omega)) (ok2 q3 (by simp only [List.length_map,List.length_append,List.length_nil,List.length_cons,List.map_nil,List.map_cons,xOS,xON] <;> omega) rfl) (by simp only [List.length_map,List.length_append,List.length_nil,List.length_cons,List.map_nil,List.map_cons,xOS,xON] <;> omega) ?_
 simp only [seval,EMB]
 refine mU e (.region fun e h=>?_) h
 simp only [seval,EMB]
 cases h
 simp only [seval,FMB,Tryz.results41,qr98]
 intro v1 qd99
 refine .sR fun e h=>?_
 simp only [seval,EMB,qd99]
 refine mU e (.seqK (.condF rfl (.exit fun e h=>?_))) h
 cases h
 simp only [seval,FMB,Tryz.results41]
 intro v2
 refine Mir.toK (.sR fun e h=>?_)
 simp only [seval,EMB]
 refine specS_st rfl (lns_at (by simp only [List.length_map,List.length_append,List.length_nil,List.length_cons,List.map_nil,List.map_cons,xOS,xON] <;> omega)) ?_
 simp only [seval,EMB]
 refine mU e (.ret fun e h=>?_) h
 cases h
 simp only [seval,FMB,Tryz.results41]
def po_Emit (a0 : (List ApiStage)) (a1 : ApiPos) (a2 : PostOptions) : Option ((List UInt8) × Int) := bindO (po_Blocks a0 (ApiPos.mk a1.X a1.Y a1.Z) a2) fun (y1 : (List ApiBlock) × Int)=>if (y1.2 != 0) = true then some ([],y1.2) else bindO (bk_Print y1.1) fun (y2 : (List UInt8) × Int)=>if (y2.2 != 0) = true then some ([],y2.2) else if (decide ((y2.1.length : Int) > 65536)) = true then some ([],3) else some (y2.1,0)
theorem po_Emit_spec {a0 : (List ApiStage)} {a1 : ApiPos} {a2 : PostOptions} {y : (List UInt8) × Int} (h : po_Emit a0 a1 a2 = some y) : Spec gP 14 [.d (.list (List.map encApiStage a0)),.agg [.d (.int .i64 a1.X),.d (.int .i64 a1.Y),.d (.int .i64 a1.Z)],.agg [.d (.int .i64 a2.Work),.d (.bool a2.Compress),.d (.int .i64 a2.Numbers),.d (.int .i64 a2.Fold)]] (.tuple [.d (.str y.1),.d (.int .i64 y.2)]) := by
 refine spec_mir Tryz.func14 rfl (by kernel_rfl) (by kernel_rfl) (fun y : (List UInt8) × Int=>.tuple [.d (.str y.1),.d (.int .i64 y.2)]) ?_ h
 unfold po_Emit
 simp only [List.replicate,List.length,nS,nA,Tryz.ntmps14,SV]
 refine .sR fun e h=>?_
 simp only [seval,EMB]
 refine mU e (.seqK (.bind fun y1 hy1=>.region fun e h=>?_)) h
 simp only [seval,EMB,ag_24,sz_24,ag_35,sz_35]
 refine SpecS.by (po_Blocks_spec hy1) (by simp only [seval,FMB]) ?_
 simp only [seval,EMB]
 refine mU e (.seqK (.sR fun e h=>?_)) h
 simp only [seval,EMB]
 refine mU e (.cond rfl (fun hb3=>?_) (fun hb3=>?_)) h
 refine .sR fun e h=>?_
 simp only [seval,EMB]
 refine mU e (.ret fun e h=>?_) h
 cases h
 simp only [seval,FMB,Tryz.results14]
 refine .skip (Mir.toK (.seqK (.bind fun y2 hy4=>.region fun e h=>?_)))
 simp only [seval,EMB]
 refine SpecS.by (bk_Print_spec hy4) (by simp only [seval,FMB]) ?_
 simp only [seval,EMB]
 refine mU e (.seqK (.sR fun e h=>?_)) h
 simp only [seval,EMB]
 refine mU e (.cond rfl (fun hb6=>?_) (fun hb6=>?_)) h
 refine .sR fun e h=>?_
 simp only [seval,EMB]
 refine mU e (.ret fun e h=>?_) h
 cases h
 simp only [seval,FMB,Tryz.results14]
 refine .skip (Mir.toK (.seqK (.sR fun e h=>?_)))
 simp only [seval,EMB,und_9]
 refine mU e (.cond rfl (fun hb8=>?_) (fun hb8=>?_)) h
 refine .sR fun e h=>?_
 simp only [seval,EMB]
 refine mU e (.ret fun e h=>?_) h
 cases h
 simp only [seval,FMB,Tryz.results14]
 refine .skip (Mir.toK (.sR fun e h=>?_))
 simp only [seval,EMB]
 refine mU e (.ret fun e h=>?_) h
 cases h
 simp only [seval,FMB,Tryz.results14]
def l46_awake  : Option Bool := bindO (po_Move (ApiPos.mk 0 0 5000) (ApiMove.mk 2 (ApiPos.mk 10000 2500 (-1000)) (ApiGrid2.mk 0 0) 20000)) fun (y1 : ApiBlock × Int)=>bindO (l46_text y1.1 y1.2) fun (y2 : (List UInt8))=>bindO (po_Move (ApiPos.mk 3000 0 (-1000)) (ApiMove.mk 4 (ApiPos.mk 3000 0 (-1000)) (ApiGrid2.mk 0 0) 20000)) fun (y3 : ApiBlock × Int)=>bindO (l46_text y3.1 y3.2) fun (y4 : (List UInt8))=>bindO (po_Change 7) fun (y5 : (List ApiBlock) × Int)=>bindO (po_Emit [] (ApiPos.mk 0 0 5000) (PostOptions.mk 55000 true 0 0)) fun (y6 : (List UInt8) × Int)=>bindO (if (y2 == [71,49,32,88,49,48,32,89,50,46,53,32,90,45,49,32,70,50,48]) = true then if (y4 == [71,51,32,88,51,32,89,48,32,90,45,49,32,73,45,51,32,74,48,32,70,50,48]) = true then if (y5.2 == 0) = true then if ((y5.1.length : Int) == 2) = true then bindO (gt y5.1 0) fun (e1 : ApiBlock)=>bindO (l46_text e1 y5.2) fun (y7 : (List UInt8))=>if (y7 == [84,55,32,77,54]) = true then bindO (gt y5.1 1) fun (e2 : ApiBlock)=>bindO (l46_text e2 y5.2) fun (y8 : (List UInt8))=>if (y8 == [71,52,51,32,72,55]) = true then if (y6.2 == 0) = true then some (y6.1 == [71,53,53,10,77,51,48,10]) else some false else some false else some false else some false else some false else some false else some false) fun (v1 : Bool)=>some v1
theorem l46_awake_spec  {y : Bool} (h : l46_awake = some y) : Spec gP 4 [] (.d (.bool y)) := by
 refine spec_mir Tryz.func4 rfl (by kernel_rfl) (by kernel_rfl) (fun y : Bool=>.d (.bool y)) ?_ h
 unfold l46_awake
 simp only [List.replicate,List.length,nS,nA,Tryz.ntmps4,SV]
 refine .sR fun e h=>?_
 simp only [seval,EMB]
 refine mU e (.sR fun e h=>?_) h
 simp only [seval,EMB,zero_24,pl_24,sz_24]
 refine mU e (.seqK (.bind fun y1 hy1=>.bind fun y2 hy2=>.region fun e h=>?_)) h
 simp only [seval,EMB,ag_24,sz_24,zero_54,pl_54]
 refine SpecS.by (po_Move_spec hy1) (by simp only [seval,FMB]) ?_
 simp only [seval,EMB]
 refine SpecS.by (l46_text_spec hy2) (by simp only [seval,FMB]) ?_
 simp only [seval,EMB]
 refine mU e (.sR fun e h=>?_) h
 simp only [seval,EMB,zero_24,pl_24,sz_24]
 refine mU e (.seqK (.bind fun y3 hy3=>.bind fun y4 hy4=>.region fun e h=>?_)) h
 simp only [seval,EMB,ag_24,sz_24,zero_54,pl_54]
 refine SpecS.by (po_Move_spec hy3) (by simp only [seval,FMB]) ?_
 simp only [seval,EMB]
 refine SpecS.by (l46_text_spec hy4) (by simp only [seval,FMB]) ?_
 simp only [seval,EMB]
 refine mU e (.seqK (.bind fun y5 hy5=>.region fun e h=>?_)) h
 simp only [seval,EMB]
 refine SpecS.by (po_Change_spec hy5) (by simp only [seval,FMB]) ?_
 simp only [seval,EMB]
 refine mU e (.seqK (.bind fun y6 hy6=>.region fun e h=>?_)) h
 simp only [seval,EMB,ag_24,sz_24,zero_35,pl_35]
 refine SpecS.by (po_Emit_spec hy6) (by simp only [seval,FMB]) ?_
 simp only [seval,EMB]
 refine mU e (.seqK (Mir.joinO (fun v1 : Bool=>([.d (.bool v1)] ++ us 75)) (fun v1=>⟨[[.d (.int .i64 0),.d (.int .i64 0),.d (.int .i64 5000)],[.d (.int .i64 10000),.d (.int .i64 2500),.d (.int .i64 (-1000))],[.d (.int .i64 3000),.d (.int .i64 0),.d (.int .i64 (-1000))]],[]⟩) (fun _=>rfl) ?_ ?_)) h
 refine .ite (fun hb7=>?_) (fun hb7=>?_)
 refine .ite (fun hb8=>?_) (fun hb8=>?_)
 refine .ite (fun hb9=>?_) (fun hb9=>?_)
 refine .ite (fun hb10=>?_) (fun hb10=>?_)
 refine .bind fun e1 q11=>?_
 replace q11 := gt_ok q11
 simp only [Int.reduceToNat,Int.reduceLT,Nat.sub_zero,dp0] at q11
 refine .bind fun y7 hy12=>.ite (fun hb13=>?_) (fun hb13=>?_)
 refine .bind fun e2 q14=>?_
 replace q14 := gt_ok q14
 simp only [Int.reduceToNat,Int.reduceLT,Nat.sub_zero,dp0] at q14
 refine .bind fun y8 hy15=>.ite (fun hb16=>?_) (fun hb16=>?_)
 refine .ite (fun hb17=>?_) (fun hb17=>?_)
 refine .region fun e h=>?_
 simp only [seval,EMB,und_31,sz_48,q11,ag_48,hb7,hb8,hb9,hb10,hb13,hb16,hb17]
 refine SpecS.by (l46_text_spec hy12) (by simp only [seval,FMB,hb7,hb8,hb9,hb10,hb13,hb16,hb17]) ?_
 simp only [seval,EMB,und_31,sz_48,q14,ag_48,hb7,hb8,hb9,hb10,hb13,hb16,hb17]
 refine SpecS.by (l46_text_spec hy15) (by simp only [seval,FMB,hb7,hb8,hb9,hb10,hb13,hb16,hb17]) ?_
 simp only [seval,EMB,hb7,hb8,hb9,hb10,hb13,hb16,hb17]
 cases h
 simp only [seval,FMB,hb7,hb8,hb9,hb10,hb13,hb16,hb17]
 refine .region fun e h=>?_
 simp only [seval,EMB,und_31,sz_48,q11,ag_48,hb7,hb8,hb9,hb10,hb13,hb16,hb17]
 refine SpecS.by (l46_text_spec hy12) (by simp only [seval,FMB,hb7,hb8,hb9,hb10,hb13,hb16,hb17]) ?_
 simp only [seval,EMB,und_31,sz_48,q14,ag_48,hb7,hb8,hb9,hb10,hb13,hb16,hb17]
 refine SpecS.by (l46_text_spec hy15) (by simp only [seval,FMB,hb7,hb8,hb9,hb10,hb13,hb16,hb17]) ?_
 simp only [seval,EMB,hb7,hb8,hb9,hb10,hb13,hb16,hb17]
 cases h
 simp only [seval,FMB,hb7,hb8,hb9,hb10,hb13,hb16,hb17]
 refine .region fun e h=>?_
 simp only [seval,EMB,und_31,sz_48,q11,ag_48,hb7,hb8,hb9,hb10,hb13,hb16]
 refine SpecS.by (l46_text_spec hy12) (by simp only [seval,FMB,hb7,hb8,hb9,hb10,hb13,hb16]) ?_
 simp only [seval,EMB,und_31,sz_48,q14,ag_48,hb7,hb8,hb9,hb10,hb13,hb16]
 refine SpecS.by (l46_text_spec hy15) (by simp only [seval,FMB,hb7,hb8,hb9,hb10,hb13,hb16]) ?_
 simp only [seval,EMB,hb7,hb8,hb9,hb10,hb13,hb16]
 cases h
 simp only [seval,FMB,hb7,hb8,hb9,hb10,hb13,hb16]
 refine .region fun e h=>?_
 simp only [seval,EMB,und_31,sz_48,q11,ag_48,hb7,hb8,hb9,hb10,hb13]
 refine SpecS.by (l46_text_spec hy12) (by simp only [seval,FMB,hb7,hb8,hb9,hb10,hb13]) ?_
 simp only [seval,EMB,hb7,hb8,hb9,hb10,hb13]
 cases h
 simp only [seval,FMB,hb7,hb8,hb9,hb10,hb13]
 refine .region fun e h=>?_
 simp only [seval,EMB,und_31,hb7,hb8,hb9,hb10]
 cases h
 simp only [seval,FMB,hb7,hb8,hb9,hb10]
 refine .region fun e h=>?_
 simp only [seval,EMB,hb7,hb8,hb9]
 cases h
 simp only [seval,FMB,hb7,hb8,hb9]
 refine .region fun e h=>?_
 simp only [seval,EMB,hb7,hb8]
 cases h
 simp only [seval,FMB,hb7,hb8]
 refine .region fun e h=>?_
 simp only [seval,EMB,hb7]
 cases h
 simp only [seval,FMB,hb7]
 intro v1
 refine Mir.toK (.ret fun e h=>?_)
 cases h
 simp only [seval,FMB,Tryz.results4]
end Go.Proofs.YtjgngikiglhleaaGreatDoor
