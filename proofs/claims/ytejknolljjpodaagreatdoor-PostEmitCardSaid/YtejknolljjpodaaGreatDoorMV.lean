import Derived.Test.YtejknolljjpodaaGreatDoorGx
import Derived.Test.YtejknolljjpodaaGreatDoorTy
import Derived.Test.YtejknolljjpodaaGreatDoorMB
namespace Go.Proofs.YtejknolljjpodaaGreatDoor
open Go.RowKit
open Nat renaming reduceAdd → nA, reduceSub → nS, reduceMul → nM, reduceEqDiff → nE, reduceLeDiff → nL, reduceLT → nT, reduceBEq → nB
open Int renaming reduceLT → iT, reduceToNat → iN, reduceEq → iE
set_option linter.unusedVariables false
set_option linter.unusedSimpArgs false
set_option maxRecDepth 100000
set_option maxHeartbeats 8000000
structure R46Options where
 Work : Int
 Compress : Bool
 Numbers : Int
 Fold : Int
 deriving DecidableEq
def encR46Options (x : R46Options) : List D := [.int .i64 x.Work, .bool x.Compress, .int .i64 x.Numbers, .int .i64 x.Fold]
theorem ENMV : type_of% (@encR46Options.eq_1) := @encR46Options.eq_1
theorem EMV : type_of% (And.intro @SE <| And.intro @ENMV <| @ENMB) := And.intro @SE <| And.intro @ENMV <| @ENMB
theorem FMV : type_of% (And.intro @SF <| And.intro @ENMV <| @ENMB) := And.intro @SF <| And.intro @ENMV <| @ENMB
def r33_arc (a0 : ApiMove) : Option Bool := some ((a0.Kind == 3) || (a0.Kind == 4))
theorem r33_arc_spec {a0 : ApiMove} {y : Bool} (h : r33_arc a0 = some y) : Spec gP 76 [.agg [.d (.int .i64 a0.Kind), .d (.int .i64 a0.To.X), .d (.int .i64 a0.To.Y), .d (.int .i64 a0.To.Z), .d (.int .i64 a0.Center.X), .d (.int .i64 a0.Center.Y), .d (.int .i64 a0.Rate)]] (.d (.bool y)) := by
 refine spec_mir Tryz.func76 rfl (by kernel_rfl) (by kernel_rfl) (fun y : Bool => .d (.bool y)) ?_ h
 unfold r33_arc
 simp only [List.replicate, List.length, nS, nA, Tryz.ntmps76, SV]
 refine .sR fun e h=>?_
 simp only [seval,EMV]
 refine mU e (.seqK (.joinV ([U,U,.d (.bool ((a0.Kind == 3) || (a0.Kind == 4)))] ++ us 8) ⟨[[.d (.int .i64 a0.Kind),.d (.int .i64 a0.To.X),.d (.int .i64 a0.To.Y),.d (.int .i64 a0.To.Z),.d (.int .i64 a0.Center.X),.d (.int .i64 a0.Center.Y),.d (.int .i64 a0.Rate)]],[]⟩ rfl ?_ ?_)) h
 refine SWs.region ?_
 rcases Bool.eq_false_or_eq_true (a0.Kind == 3) with hb1 | hb1
 simp only [seval,EMV,SL,PB,fld_27_0,sz_3,ag_3,hb1]
 simp only [seval,EMV,SL,PB,fld_27_0,sz_3,ag_3,hb1]
 refine Mir.toK (.ret fun e h=>?_)
 cases h
 simp only [seval,FMV,Tryz.results76]
def r33_far (a0 : Int) : Option Bool := some ((decide (a0 > 10000000)) || (decide (a0 < (-10000000))))
theorem r33_far_spec {a0 : Int} {y : Bool} (h : r33_far a0 = some y) : Spec gP 77 [.d (.int .i64 a0)] (.d (.bool y)) := by
 refine spec_mir Tryz.func77 rfl (by kernel_rfl) (by kernel_rfl) (fun y : Bool => .d (.bool y)) ?_ h
 unfold r33_far
 simp only [List.replicate, List.length, nS, nA, Tryz.ntmps77, SV]
 refine .sR fun e h=>?_
 simp only [seval,EMV]
 refine mU e (.seqK (.joinV ([U,U,.d (.bool ((decide (a0 > 10000000)) || (decide (a0 < (-10000000)))))] ++ us 6) ⟨[],[]⟩ rfl ?_ ?_)) h
 refine SWs.region ?_
 rcases Bool.eq_false_or_eq_true (decide (a0 > 10000000)) with hb1 | hb1
 simp only [seval,EMV,SL,PB,hb1]
 simp only [seval,EMV,SL,PB,hb1]
 refine Mir.toK (.ret fun e h=>?_)
 cases h
 simp only [seval,FMV,Tryz.results77]
def r33_apart (a0 : Int) (a1 : Int) : Option Int := bindO (if (decide (a0 < a1)) = true then some (a1, a0) else some (a0, a1)) fun (v1 : Int × Int) => some (IntKind.u64.wrap ((IntKind.u64.wrap v1.1) - (IntKind.u64.wrap v1.2)))
theorem r33_apart_spec {a0 : Int} {a1 : Int} {y : Int} (h : r33_apart a0 a1 = some y) : Spec gP 121 [.d (.int .i64 a0), .d (.int .i64 a1)] (.d (.int .u64 y)) := by
 refine spec_mir Tryz.func121 rfl (by kernel_rfl) (by kernel_rfl) (fun y : Int => .d (.int .u64 y)) ?_ h
 unfold r33_apart
 simp only [List.replicate, List.length, nS, nA, Tryz.ntmps121, SV]
 refine .sR fun e h=>?_
 simp only [seval,EMV]
 refine mU e (.seqK (.sR fun e h=>?_)) h
 simp only [seval,EMV]
 refine mU e (Mir.joinO (fun v1 : Int × Int=>([.d (.int .i64 v1.1),.d (.int .i64 v1.2)] ++ us 13)) (fun v1=>⟨[],[]⟩) (fun _=>rfl) ?_ ?_) h
 refine .cond rfl (fun hb2=>?_) (fun hb2=>?_)
 refine .region fun e h=>?_
 simp only [seval,EMV]
 cases h
 simp only [seval,FMV,Tryz.results121]
 refine .skip fun e h=>?_
 cases h
 simp only [seval,FMV,Tryz.results121]
 intro v1
 refine Mir.toK (.sR fun e h=>?_)
 simp only [seval,EMV,und_2,und_123]
 refine mU e (.ret fun e h=>?_) h
 cases h
 simp only [seval,FMV,Tryz.results121]
def r33_right (a0 : ApiPos) (a1 : ApiMove) : Option Bool := bindO (r33_apart a0.X a1.Center.X) fun (y1 : Int) => bindO (r33_apart a0.Y a1.Center.Y) fun (y2 : Int) => bindO (r33_apart a1.To.X a1.Center.X) fun (y3 : Int) => bindO (r33_apart a1.To.Y a1.Center.Y) fun (y4 : Int) => some (!((y1 == 0) == (y2 == 0)) && (!((y3 == 0) == (y4 == 0)) && ((IntKind.u64.wrap (y1 + y2)) == (IntKind.u64.wrap (y3 + y4)))))
theorem r33_right_spec {a0 : ApiPos} {a1 : ApiMove} {y : Bool} (h : r33_right a0 a1 = some y) : Spec gP 78 [.agg [.d (.int .i64 a0.X), .d (.int .i64 a0.Y), .d (.int .i64 a0.Z)], .agg [.d (.int .i64 a1.Kind), .d (.int .i64 a1.To.X), .d (.int .i64 a1.To.Y), .d (.int .i64 a1.To.Z), .d (.int .i64 a1.Center.X), .d (.int .i64 a1.Center.Y), .d (.int .i64 a1.Rate)]] (.d (.bool y)) := by
 refine spec_mir Tryz.func78 rfl (by kernel_rfl) (by kernel_rfl) (fun y : Bool => .d (.bool y)) ?_ h
 unfold r33_right
 simp only [List.replicate, List.length, nS, nA, Tryz.ntmps78, SV]
 refine .sR fun e h=>?_
 simp only [seval,EMV]
 refine mU e (.seqK (.bind fun y1 hy1=>.bind fun y2 hy2=>.regionD [] (by kernel_rfl) fun e h=>?_)) h
 simp only [seval,EMV,SB,fld_23_0,sz_2,ag_2,fld_27_2,sz_25,fld_25_0]
 refine Spec.by (r33_apart_spec hy1) (by simp only [seval,FMV]) ?_
 simp only [seval,EMV,SB,fld_23_1,sz_2,ag_2,fld_27_2,sz_25,fld_25_1]
 refine Spec.by (r33_apart_spec hy2) (by simp only [seval,FMV]) ?_
 simp only [seval,EMV,SB]
 refine mU e (.seqK (.bind fun y3 hy3=>.bind fun y4 hy4=>.regionD [] (by kernel_rfl) fun e h=>?_)) h
 simp only [seval,EMV,SB,fld_27_1,sz_23,fld_23_0,sz_2,ag_2,fld_27_2,sz_25,fld_25_0]
 refine Spec.by (r33_apart_spec hy3) (by simp only [seval,FMV]) ?_
 simp only [seval,EMV,SB,fld_27_1,sz_23,fld_23_1,sz_2,ag_2,fld_27_2,sz_25,fld_25_1]
 refine Spec.by (r33_apart_spec hy4) (by simp only [seval,FMV]) ?_
 simp only [seval,EMV,SB]
 refine mU e (.seqK (.joinV ([U,U,U,U,.d (.bool (!((y1 == 0) == (y2 == 0)) && (!((y3 == 0) == (y4 == 0)) && ((IntKind.u64.wrap (y1 + y2)) == (IntKind.u64.wrap (y3 + y4))))))] ++ us 51) ⟨[[.d (.int .i64 a0.X),.d (.int .i64 a0.Y),.d (.int .i64 a0.Z)],[.d (.int .i64 a1.Kind),.d (.int .i64 a1.To.X),.d (.int .i64 a1.To.Y),.d (.int .i64 a1.To.Z),.d (.int .i64 a1.Center.X),.d (.int .i64 a1.Center.Y),.d (.int .i64 a1.Rate)]],[]⟩ rfl ?_ ?_)) h
 refine SWs.region ?_
 rcases Bool.eq_false_or_eq_true ((y1 == 0) == (y2 == 0)) with hb5 | hb5
 simp only [seval,EMV,SL,PB,und_4,hb5]
 rcases Bool.eq_false_or_eq_true ((y3 == 0) == (y4 == 0)) with hb6 | hb6
 simp only [seval,EMV,SL,PB,und_4,hb5,hb6]
 simp only [seval,EMV,SL,PB,und_4,hb5,hb6]
 refine Mir.toK (.ret fun e h=>?_)
 cases h
 simp only [seval,FMV,Tryz.results78]
def r33_quadrant (a0 : Int) (a1 : Int) : Option (Int × Int) := if ((decide (a0 > 0)) && (a1 == 0)) = true then some (0, a0) else if ((a0 == 0) && (decide (a1 > 0))) = true then some (1, a1) else if ((decide (a0 < 0)) && (a1 == 0)) = true then some (2, IntKind.i64.wrap (0 - a0)) else if ((a0 == 0) && (decide (a1 < 0))) = true then some (3, IntKind.i64.wrap (0 - a1)) else some (-1, 0)
theorem r33_quadrant_spec {a0 : Int} {a1 : Int} {y : Int × Int} (h : r33_quadrant a0 a1 = some y) : Spec gP 79 [.d (.int .i64 a0), .d (.int .i64 a1)] (.tuple [.d (.int .i64 y.1), .d (.int .i64 y.2)]) := by
 refine spec_mir Tryz.func79 rfl (by kernel_rfl) (by kernel_rfl) (fun y : Int × Int => .tuple [.d (.int .i64 y.1), .d (.int .i64 y.2)]) ?_ h
 unfold r33_quadrant
 simp only [List.replicate, List.length, nS, nA, Tryz.ntmps79, SV]
 refine .sR fun e h=>?_
 simp only [seval,EMV]
 refine mU e (.seqK (.block (.seqK (.joinV ([.d (.int .i64 a0),.d (.int .i64 a1),U,U,U,U,.d (.bool ((decide (a0 > 0)) && (a1 == 0)))] ++ us 33) ⟨[],[]⟩ rfl ?_ ?_)))) h
 refine SWs.region ?_
 rcases Bool.eq_false_or_eq_true (decide (a0 > 0)) with hb9 | hb9
 simp only [seval,EMV,SL,PB,hb9]
 simp only [seval,EMV,SL,PB,hb9]
 refine Mir.toK (.cond rfl (fun hb17=>?_) (fun hb17=>?_))
 refine .sR fun e h=>?_
 simp only [seval,EMV]
 refine mU e (.ret fun e h=>?_) h
 cases h
 simp only [seval,FMV,Tryz.results79]
 refine .seqK (.joinV ([.d (.int .i64 a0),.d (.int .i64 a1),U,U,U,U,U,U,U,U,U,U,U,U,.d (.bool ((a0 == 0) && (decide (a1 > 0))))] ++ us 25) ⟨[],[]⟩ rfl ?_ ?_)
 refine SWs.region ?_
 rcases Bool.eq_false_or_eq_true (a0 == 0) with hb18 | hb18
 simp only [seval,EMV,SL,PB,hb18]
 simp only [seval,EMV,SL,PB,hb18]
 refine Mir.toK (.cond rfl (fun hb24=>?_) (fun hb24=>?_))
 refine .sR fun e h=>?_
 simp only [seval,EMV]
 refine mU e (.ret fun e h=>?_) h
 cases h
 simp only [seval,FMV,Tryz.results79]
 refine .seqK (.joinV ([.d (.int .i64 a0),.d (.int .i64 a1),U,U,U,U,U,U,U,U,U,U,U,U,U,U,U,U,U,U,U,U,.d (.bool ((decide (a0 < 0)) && (a1 == 0)))] ++ us 17) ⟨[],[]⟩ rfl ?_ ?_)
 refine SWs.region ?_
 rcases Bool.eq_false_or_eq_true (decide (a0 < 0)) with hb25 | hb25
 simp only [seval,EMV,SL,PB,hb25]
 simp only [seval,EMV,SL,PB,hb25]
 refine Mir.toK (.cond rfl (fun hb29=>?_) (fun hb29=>?_))
 refine .sR fun e h=>?_
 simp only [seval,EMV]
 refine mU e (.ret fun e h=>?_) h
 cases h
 simp only [seval,FMV,Tryz.results79]
 refine .seqK (.joinV ([U,.d (.int .i64 a1),U,U,U,U,U,U,U,U,U,U,U,U,U,U,U,U,U,U,U,U,U,U,U,U,U,U,U,U,U,.d (.bool ((a0 == 0) && (decide (a1 < 0))))] ++ us 8) ⟨[],[]⟩ rfl ?_ ?_)
 refine SWs.region ?_
 rcases Bool.eq_false_or_eq_true (a0 == 0) with hb30 | hb30
 simp only [seval,EMV,SL,PB,hb30]
 simp only [seval,EMV,SL,PB,hb30]
 refine Mir.toK (.cond rfl (fun hb32=>?_) (fun hb32=>?_))
 refine .sR fun e h=>?_
 simp only [seval,EMV]
 refine mU e (.ret fun e h=>?_) h
 cases h
 simp only [seval,FMV,Tryz.results79]
 refine .skip (Mir.toB (Mir.toK (.sR fun e h=>?_)))
 simp only [seval,EMV]
 refine mU e (.ret fun e h=>?_) h
 cases h
 simp only [seval,FMV,Tryz.results79]
def r33_Valid (a0 : ApiPos) (a1 : ApiMove) : Option Int := bindO (if (if (a1.Kind == 1) = true then (a1.Rate == 0) || ((a1.Kind == 2) && (decide (a1.Rate > 0))) else (a1.Kind == 2) && (decide (a1.Rate > 0))) = true then some false else bindO (r33_arc a1) fun (y1 : Bool) => if y1 = true then some (decide (a1.Rate ≤ 0)) else some true) fun (v1 : Bool) => if v1 = true then some 1 else bindO (bindO (r33_far a0.X) fun (y2 : Bool) => if y2 = true then some true else bindO (r33_far a0.Y) fun (y3 : Bool) => if y3 = true then some true else bindO (r33_far a0.Z) fun (y4 : Bool) => if y4 = true then some true else bindO (r33_far a1.To.X) fun (y5 : Bool) => if y5 = true then some true else bindO (r33_far a1.To.Y) fun (y6 : Bool) => if y6 = true then some true else bindO (r33_far a1.To.Z) fun (y7 : Bool) => some y7) fun (v2 : Bool) => if (if (a1.Kind == 1) = true then (a1.Rate == 0) || ((a1.Kind == 2) && (decide (a1.Rate > 0))) else (a1.Kind == 2) && (decide (a1.Rate > 0))) = true then if v2 = true then some 11 else some 0 else bindO (if v2 = true then some true else bindO (r33_far a1.Center.X) fun (y8 : Bool) => if y8 = true then some true else bindO (r33_far a1.Center.Y) fun (y9 : Bool) => some y9) fun (v3 : Bool) => if v3 = true then bindO (r33_right a0 a1) fun (y10 : Bool) => if (!y10) = true then some 1 else some 11 else bindO (r33_quadrant (IntKind.i64.wrap (a0.X - a1.Center.X)) (IntKind.i64.wrap (a0.Y - a1.Center.Y))) fun (y11 : Int × Int) => bindO (r33_quadrant (IntKind.i64.wrap (a1.To.X - a1.Center.X)) (IntKind.i64.wrap (a1.To.Y - a1.Center.Y))) fun (y12 : Int × Int) => if ((decide (y11.1 < 0)) || ((decide (y12.1 < 0)) || (y11.2 != y12.2))) = true then some 1 else bindO (bindO (r33_far (IntKind.i64.wrap (a1.Center.X + y11.2))) fun (y13 : Bool) => if y13 = true then some true else bindO (r33_far (IntKind.i64.wrap (a1.Center.X - y11.2))) fun (y14 : Bool) => if y14 = true then some true else bindO (r33_far (IntKind.i64.wrap (a1.Center.Y + y11.2))) fun (y15 : Bool) => if y15 = true then some true else bindO (r33_far (IntKind.i64.wrap (a1.Center.Y - y11.2))) fun (y16 : Bool) => some y16) fun (v4 : Bool) => if v4 = true then some 11 else some 0
theorem r33_Valid_spec {a0 : ApiPos} {a1 : ApiMove} {y : Int} (h : r33_Valid a0 a1 = some y) : Spec gP 35 [.agg [.d (.int .i64 a0.X), .d (.int .i64 a0.Y), .d (.int .i64 a0.Z)], .agg [.d (.int .i64 a1.Kind), .d (.int .i64 a1.To.X), .d (.int .i64 a1.To.Y), .d (.int .i64 a1.To.Z), .d (.int .i64 a1.Center.X), .d (.int .i64 a1.Center.Y), .d (.int .i64 a1.Rate)]] (.d (.int .i64 y)) := by
 refine spec_mir Tryz.func35 rfl (by kernel_rfl) (by kernel_rfl) (fun y : Int => .d (.int .i64 y)) ?_ h
 unfold r33_Valid
 simp only [List.replicate, List.length, nS, nA, Tryz.ntmps35, SV]
 refine .sR fun e h=>?_
 simp only [seval,EMV]
 refine mU e (.seqK (.joinV ([U,U,.ptr 0 0,.ptr 1 0,U,.d (.bool (if (a1.Kind == 1) = true then (a1.Rate == 0) || ((a1.Kind == 2) && (decide (a1.Rate > 0))) else (a1.Kind == 2) && (decide (a1.Rate > 0))))] ++ us 160) ⟨[[.d (.int .i64 a0.X),.d (.int .i64 a0.Y),.d (.int .i64 a0.Z)],[.d (.int .i64 a1.Kind),.d (.int .i64 a1.To.X),.d (.int .i64 a1.To.Y),.d (.int .i64 a1.To.Z),.d (.int .i64 a1.Center.X),.d (.int .i64 a1.Center.Y),.d (.int .i64 a1.Rate)]],[]⟩ rfl ?_ ?_)) h
 refine SWs.region ?_
 rcases Bool.eq_false_or_eq_true (a1.Kind == 1) with hb1 | hb1
 rcases Bool.eq_false_or_eq_true (a1.Rate == 0) with hb2 | hb2
 simp only [seval,EMV,SL,PB,fld_27_0,sz_3,ag_3,fld_27_3,sz_2,ag_2,hb1,hb2]
 rcases Bool.eq_false_or_eq_true (a1.Kind == 2) with hb3 | hb3
 simp only [seval,EMV,SL,PB,fld_27_0,sz_3,ag_3,fld_27_3,sz_2,ag_2,hb1,hb2,hb3]
 simp only [seval,EMV,SL,PB,fld_27_0,sz_3,ag_3,fld_27_3,sz_2,ag_2,hb1,hb2,hb3]
 rcases Bool.eq_false_or_eq_true (a1.Kind == 2) with hb4 | hb4
 simp only [seval,EMV,SL,PB,fld_27_0,sz_3,ag_3,fld_27_3,sz_2,ag_2,hb1,hb4]
 simp only [seval,EMV,SL,PB,fld_27_0,sz_3,ag_3,hb1,hb4]
 refine Mir.toK (.seqK (.seqK (Mir.joinO (fun v1 : Bool=>([U,U,.ptr 0 0,.ptr 1 0,U,.d (.bool (if (a1.Kind == 1) = true then (a1.Rate == 0) || ((a1.Kind == 2) && (decide (a1.Rate > 0))) else (a1.Kind == 2) && (decide (a1.Rate > 0)))),U,U,U,U,U,U,U,U,U,U,U,U,U,U,U,U,U,U,U,U,U,U,U,U,U,U,U,U,U,U,U,U,U,U,.d (.bool v1)] ++ us 125)) (fun v1=>⟨[[.d (.int .i64 a0.X),.d (.int .i64 a0.Y),.d (.int .i64 a0.Z)],[.d (.int .i64 a1.Kind),.d (.int .i64 a1.To.X),.d (.int .i64 a1.To.Y),.d (.int .i64 a1.To.Z),.d (.int .i64 a1.Center.X),.d (.int .i64 a1.Center.Y),.d (.int .i64 a1.Rate)]],[]⟩) (fun _=>rfl) ?_ ?_)))
 refine .ite (fun hb5=>?_) (fun hb5=>?_)
 refine .region fun e h=>?_
 simp only [seval,EMV,hb5]
 cases h
 simp only [seval,FMV,hb5]
 refine .bind fun y1 hy6=>.ite (fun hb7=>?_) (fun hb7=>?_)
 refine .region fun e h=>?_
 simp only [seval,EMV,ag_27,sz_27,hb5,hb7]
 refine SpecS.by (r33_arc_spec hy6) (by simp only [seval,FMV,hb5,hb7]) ?_
 simp only [seval,EMV,fld_27_3,sz_2,ag_2,hb5,hb7]
 cases h
 simp only [seval,FMV,hb5,hb7]
 refine .region fun e h=>?_
 simp only [seval,EMV,ag_27,sz_27,hb5,hb7]
 refine SpecS.by (r33_arc_spec hy6) (by simp only [seval,FMV,hb5,hb7]) ?_
 simp only [seval,EMV,hb5,hb7]
 cases h
 simp only [seval,FMV,hb5,hb7]
 intro v1
 refine Mir.toK (.cond rfl (fun hb9=>?_) (fun hb9=>?_))
 refine .sR fun e h=>?_
 simp only [seval,EMV]
 refine mU e (.ret fun e h=>?_) h
 cases h
 simp only [seval,FMV,Tryz.results35]
 refine .skip (Mir.toK (.seqK (Mir.joinO (fun v2 : Bool=>([U,U,.ptr 0 0,.ptr 1 0,U,.d (.bool (if (a1.Kind == 1) = true then (a1.Rate == 0) || ((a1.Kind == 2) && (decide (a1.Rate > 0))) else (a1.Kind == 2) && (decide (a1.Rate > 0)))),.d (.bool v2)] ++ us 159)) (fun v2=>⟨[[.d (.int .i64 a0.X),.d (.int .i64 a0.Y),.d (.int .i64 a0.Z)],[.d (.int .i64 a1.Kind),.d (.int .i64 a1.To.X),.d (.int .i64 a1.To.Y),.d (.int .i64 a1.To.Z),.d (.int .i64 a1.Center.X),.d (.int .i64 a1.Center.Y),.d (.int .i64 a1.Rate)]],[]⟩) (fun _=>rfl) ?_ ?_)))
 refine .bind fun y2 hy10=>.ite (fun hb11=>?_) (fun hb11=>?_)
 refine .region fun e h=>?_
 simp only [seval,EMV,fld_23_0,sz_2,ag_2,hb11]
 refine SpecS.by (r33_far_spec hy10) (by simp only [seval,FMV,hb11]) ?_
 simp only [seval,EMV,hb11]
 cases h
 simp only [seval,FMV,hb11]
 refine .bind fun y3 hy12=>.ite (fun hb13=>?_) (fun hb13=>?_)
 refine .region fun e h=>?_
 simp only [seval,EMV,fld_23_0,sz_2,ag_2,hb11,hb13]
 refine SpecS.by (r33_far_spec hy10) (by simp only [seval,FMV,hb11,hb13]) ?_
 simp only [seval,EMV,fld_23_1,sz_2,ag_2,hb11,hb13]
 refine SpecS.by (r33_far_spec hy12) (by simp only [seval,FMV,hb11,hb13]) ?_
 simp only [seval,EMV,hb11,hb13]
 cases h
 simp only [seval,FMV,hb11,hb13]
 refine .bind fun y4 hy14=>.ite (fun hb15=>?_) (fun hb15=>?_)
 refine .region fun e h=>?_
 simp only [seval,EMV,fld_23_0,sz_2,ag_2,hb11,hb13,hb15]
 refine SpecS.by (r33_far_spec hy10) (by simp only [seval,FMV,hb11,hb13,hb15]) ?_
 simp only [seval,EMV,fld_23_1,sz_2,ag_2,hb11,hb13,hb15]
 refine SpecS.by (r33_far_spec hy12) (by simp only [seval,FMV,hb11,hb13,hb15]) ?_
 simp only [seval,EMV,fld_23_2,sz_2,ag_2,hb11,hb13,hb15]
 refine SpecS.by (r33_far_spec hy14) (by simp only [seval,FMV,hb11,hb13,hb15]) ?_
 simp only [seval,EMV,hb11,hb13,hb15]
 cases h
 simp only [seval,FMV,hb11,hb13,hb15]
 refine .bind fun y5 hy16=>.ite (fun hb17=>?_) (fun hb17=>?_)
 refine .region fun e h=>?_
 simp only [seval,EMV,fld_23_0,sz_2,ag_2,hb11,hb13,hb15,hb17]
 refine SpecS.by (r33_far_spec hy10) (by simp only [seval,FMV,hb11,hb13,hb15,hb17]) ?_
 simp only [seval,EMV,fld_23_1,sz_2,ag_2,hb11,hb13,hb15,hb17]
 refine SpecS.by (r33_far_spec hy12) (by simp only [seval,FMV,hb11,hb13,hb15,hb17]) ?_
 simp only [seval,EMV,fld_23_2,sz_2,ag_2,hb11,hb13,hb15,hb17]
 refine SpecS.by (r33_far_spec hy14) (by simp only [seval,FMV,hb11,hb13,hb15,hb17]) ?_
 simp only [seval,EMV,fld_27_1,sz_23,fld_23_0,sz_2,ag_2,hb11,hb13,hb15,hb17]
 refine SpecS.by (r33_far_spec hy16) (by simp only [seval,FMV,hb11,hb13,hb15,hb17]) ?_
 simp only [seval,EMV,hb11,hb13,hb15,hb17]
 cases h
 simp only [seval,FMV,hb11,hb13,hb15,hb17]
 refine .bind fun y6 hy18=>.ite (fun hb19=>?_) (fun hb19=>?_)
 refine .region fun e h=>?_
 simp only [seval,EMV,fld_23_0,sz_2,ag_2,hb11,hb13,hb15,hb17,hb19]
 refine SpecS.by (r33_far_spec hy10) (by simp only [seval,FMV,hb11,hb13,hb15,hb17,hb19]) ?_
 simp only [seval,EMV,fld_23_1,sz_2,ag_2,hb11,hb13,hb15,hb17,hb19]
 refine SpecS.by (r33_far_spec hy12) (by simp only [seval,FMV,hb11,hb13,hb15,hb17,hb19]) ?_
 simp only [seval,EMV,fld_23_2,sz_2,ag_2,hb11,hb13,hb15,hb17,hb19]
 refine SpecS.by (r33_far_spec hy14) (by simp only [seval,FMV,hb11,hb13,hb15,hb17,hb19]) ?_
 simp only [seval,EMV,fld_27_1,sz_23,fld_23_0,sz_2,ag_2,hb11,hb13,hb15,hb17,hb19]
 refine SpecS.by (r33_far_spec hy16) (by simp only [seval,FMV,hb11,hb13,hb15,hb17,hb19]) ?_
 simp only [seval,EMV,fld_27_1,sz_23,fld_23_1,sz_2,ag_2,hb11,hb13,hb15,hb17,hb19]
 refine SpecS.by (r33_far_spec hy18) (by simp only [seval,FMV,hb11,hb13,hb15,hb17,hb19]) ?_
 simp only [seval,EMV,hb11,hb13,hb15,hb17,hb19]
 cases h
 simp only [seval,FMV,hb11,hb13,hb15,hb17,hb19]
 refine .bind fun y7 hy20=>.region fun e h=>?_
 simp only [seval,EMV,fld_23_0,sz_2,ag_2,hb11,hb13,hb15,hb17,hb19]
 refine SpecS.by (r33_far_spec hy10) (by simp only [seval,FMV,hb11,hb13,hb15,hb17,hb19]) ?_
 simp only [seval,EMV,fld_23_1,sz_2,ag_2,hb11,hb13,hb15,hb17,hb19]
 refine SpecS.by (r33_far_spec hy12) (by simp only [seval,FMV,hb11,hb13,hb15,hb17,hb19]) ?_
 simp only [seval,EMV,fld_23_2,sz_2,ag_2,hb11,hb13,hb15,hb17,hb19]
 refine SpecS.by (r33_far_spec hy14) (by simp only [seval,FMV,hb11,hb13,hb15,hb17,hb19]) ?_
 simp only [seval,EMV,fld_27_1,sz_23,fld_23_0,sz_2,ag_2,hb11,hb13,hb15,hb17,hb19]
 refine SpecS.by (r33_far_spec hy16) (by simp only [seval,FMV,hb11,hb13,hb15,hb17,hb19]) ?_
 simp only [seval,EMV,fld_27_1,sz_23,fld_23_1,sz_2,ag_2,hb11,hb13,hb15,hb17,hb19]
 refine SpecS.by (r33_far_spec hy18) (by simp only [seval,FMV,hb11,hb13,hb15,hb17,hb19]) ?_
 simp only [seval,EMV,fld_27_1,sz_23,fld_23_2,sz_2,ag_2,hb11,hb13,hb15,hb17,hb19]
 refine SpecS.by (r33_far_spec hy20) (by simp only [seval,FMV,hb11,hb13,hb15,hb17,hb19]) ?_
 simp only [seval,EMV,hb11,hb13,hb15,hb17,hb19]
 cases h
 simp only [seval,FMV,hb11,hb13,hb15,hb17,hb19]
 intro v2
 refine Mir.toK (.seqK (.sR fun e h=>?_))
 simp only [seval,EMV]
 refine mU e (.cond rfl (fun hb24=>?_) (fun hb24=>?_)) h
 refine .seqK (.sR fun e h=>?_)
 simp only [seval,EMV]
 refine mU e (.cond rfl (fun hb26=>?_) (fun hb26=>?_)) h
 refine .sR fun e h=>?_
 simp only [seval,EMV]
 refine mU e (.ret fun e h=>?_) h
 cases h
 simp only [seval,FMV,Tryz.results35]
 refine .skip (Mir.toK (.sR fun e h=>?_))
 simp only [seval,EMV]
 refine mU e (.ret fun e h=>?_) h
 cases h
 simp only [seval,FMV,Tryz.results35]
 refine .skip (Mir.toK (.seqK (.seqK (Mir.joinO (fun v3 : Bool=>([U,U,.ptr 0 0,.ptr 1 0,U,U,U,U,U,U,U,U,U,U,U,U,U,U,U,U,U,U,U,U,U,U,U,U,U,U,U,U,U,U,U,U,U,U,U,U,U,U,U,U,U,U,U,U,U,U,U,U,U,U,U,U,U,U,U,U,U,U,U,U,U,U,U,U,U,U,U,U,U,U,U,U,U,U,U,U,U,U,U,U,U,U,.d (.bool v3)] ++ us 79)) (fun v3=>⟨[[.d (.int .i64 a0.X),.d (.int .i64 a0.Y),.d (.int .i64 a0.Z)],[.d (.int .i64 a1.Kind),.d (.int .i64 a1.To.X),.d (.int .i64 a1.To.Y),.d (.int .i64 a1.To.Z),.d (.int .i64 a1.Center.X),.d (.int .i64 a1.Center.Y),.d (.int .i64 a1.Rate)]],[]⟩) (fun _=>rfl) ?_ ?_))))
 refine .ite (fun hb27=>?_) (fun hb27=>?_)
 refine .region fun e h=>?_
 simp only [seval,EMV,hb27]
 cases h
 simp only [seval,FMV,hb27]
 refine .bind fun y8 hy28=>.ite (fun hb29=>?_) (fun hb29=>?_)
 refine .region fun e h=>?_
 simp only [seval,EMV,fld_27_2,sz_25,fld_25_0,sz_2,ag_2,hb27,hb29]
 refine SpecS.by (r33_far_spec hy28) (by simp only [seval,FMV,hb27,hb29]) ?_
 simp only [seval,EMV,hb27,hb29]
 cases h
 simp only [seval,FMV,hb27,hb29]
 refine .bind fun y9 hy30=>.region fun e h=>?_
 simp only [seval,EMV,fld_27_2,sz_25,fld_25_0,sz_2,ag_2,hb27,hb29]
 refine SpecS.by (r33_far_spec hy28) (by simp only [seval,FMV,hb27,hb29]) ?_
 simp only [seval,EMV,fld_27_2,sz_25,fld_25_1,sz_2,ag_2,hb27,hb29]
 refine SpecS.by (r33_far_spec hy30) (by simp only [seval,FMV,hb27,hb29]) ?_
 simp only [seval,EMV,hb27,hb29]
 cases h
 simp only [seval,FMV,hb27,hb29]
 intro v3
 refine Mir.toK (.cond rfl (fun hb35=>?_) (fun hb35=>?_))
 refine .seqK (.seqK (.bind fun y10 hy36=>.region fun e h=>?_))
 simp only [seval,EMV,ag_23,sz_23,ag_27,sz_27]
 refine SpecS.by (r33_right_spec hy36) (by simp only [seval,FMV]) ?_
 simp only [seval,EMV]
 refine mU e (.cond rfl (fun hb38=>?_) (fun hb38=>?_)) h
 refine .sR fun e h=>?_
 simp only [seval,EMV]
 refine mU e (.ret fun e h=>?_) h
 cases h
 simp only [seval,FMV,Tryz.results35]
 refine .skip (Mir.toK (.sR fun e h=>?_))
 simp only [seval,EMV]
 refine mU e (.ret fun e h=>?_) h
 cases h
 simp only [seval,FMV,Tryz.results35]
 refine .skip (Mir.toK (.seqK (.bind fun y11 hy39=>.region fun e h=>?_)))
 simp only [seval,EMV,fld_23_0,sz_2,ag_2,fld_27_2,sz_25,fld_25_0,fld_23_1,fld_25_1]
 refine SpecS.by (r33_quadrant_spec hy39) (by simp only [seval,FMV]) ?_
 simp only [seval,EMV]
 refine mU e (.seqK (.bind fun y12 hy40=>.region fun e h=>?_)) h
 simp only [seval,EMV,fld_27_1,sz_23,fld_23_0,sz_2,ag_2,fld_27_2,sz_25,fld_25_0,fld_23_1,fld_25_1]
 refine SpecS.by (r33_quadrant_spec hy40) (by simp only [seval,FMV]) ?_
 simp only [seval,EMV]
 refine mU e (.seqK (.seqK (.joinV ([U,U,U,.ptr 1 0,U,U,U,U,.d (.int .i64 y11.2),U,U,U,U,U,U,U,U,U,U,U,U,U,U,U,U,U,U,U,U,U,U,U,U,U,U,U,U,U,U,U,U,U,U,U,U,U,U,U,U,U,U,U,U,U,U,U,U,U,U,U,U,U,U,U,U,U,U,U,U,U,U,U,U,U,U,U,U,U,U,U,U,U,U,U,U,U,U,U,U,U,U,U,U,U,U,U,U,U,U,U,U,U,U,U,U,U,U,U,U,U,U,U,U,U,U,U,U,U,U,U,U,U,U,U,U,U,U,U,U,U,U,U,U,U,U,.d (.bool ((decide (y11.1 < 0)) || ((decide (y12.1 < 0)) || (y11.2 != y12.2))))] ++ us 30) ⟨[[.d (.int .i64 a0.X),.d (.int .i64 a0.Y),.d (.int .i64 a0.Z)],[.d (.int .i64 a1.Kind),.d (.int .i64 a1.To.X),.d (.int .i64 a1.To.Y),.d (.int .i64 a1.To.Z),.d (.int .i64 a1.Center.X),.d (.int .i64 a1.Center.Y),.d (.int .i64 a1.Rate)]],[]⟩ rfl ?_ ?_))) h
 refine SWs.region ?_
 rcases Bool.eq_false_or_eq_true (decide (y11.1 < 0)) with hb41 | hb41
 simp only [seval,EMV,SL,PB,hb41]
 rcases Bool.eq_false_or_eq_true (decide (y12.1 < 0)) with hb42 | hb42
 simp only [seval,EMV,SL,PB,hb41,hb42]
 simp only [seval,EMV,SL,PB,hb41,hb42]
 refine Mir.toK (.cond rfl (fun hb44=>?_) (fun hb44=>?_))
 refine .sR fun e h=>?_
 simp only [seval,EMV]
 refine mU e (.ret fun e h=>?_) h
 cases h
 simp only [seval,FMV,Tryz.results35]
 refine .skip (Mir.toK (.seqK (.seqK (Mir.joinO (fun v4 : Bool=>[U,U,U,U,U,U,U,U,U,U,U,U,U,U,U,U,U,U,U,U,U,U,U,U,U,U,U,U,U,U,U,U,U,U,U,U,U,U,U,U,U,U,U,U,U,U,U,U,U,U,U,U,U,U,U,U,U,U,U,U,U,U,U,U,U,U,U,U,U,U,U,U,U,U,U,U,U,U,U,U,U,U,U,U,U,U,U,U,U,U,U,U,U,U,U,U,U,U,U,U,U,U,U,U,U,U,U,U,U,U,U,U,U,U,U,U,U,U,U,U,U,U,U,U,U,U,U,U,U,U,U,U,U,U,U,U,U,U,U,U,U,U,U,U,U,U,U,U,U,U,U,U,U,U,U,U,U,U,U,U,U,U,U,U,U,.d (.bool v4)]) (fun v4=>⟨[[.d (.int .i64 a0.X),.d (.int .i64 a0.Y),.d (.int .i64 a0.Z)],[.d (.int .i64 a1.Kind),.d (.int .i64 a1.To.X),.d (.int .i64 a1.To.Y),.d (.int .i64 a1.To.Z),.d (.int .i64 a1.Center.X),.d (.int .i64 a1.Center.Y),.d (.int .i64 a1.Rate)]],[]⟩) (fun _=>rfl) ?_ ?_))))
 refine .bind fun y13 hy45=>.ite (fun hb46=>?_) (fun hb46=>?_)
 refine .region fun e h=>?_
 simp only [seval,EMV,fld_27_2,sz_25,fld_25_0,sz_2,ag_2,hb46]
 refine SpecS.by (r33_far_spec hy45) (by simp only [seval,FMV,hb46]) ?_
 simp only [seval,EMV,hb46]
 cases h
 simp only [seval,FMV,hb46]
 refine .bind fun y14 hy47=>.ite (fun hb48=>?_) (fun hb48=>?_)
 refine .region fun e h=>?_
 simp only [seval,EMV,fld_27_2,sz_25,fld_25_0,sz_2,ag_2,hb46,hb48]
 refine SpecS.by (r33_far_spec hy45) (by simp only [seval,FMV,hb46,hb48]) ?_
 simp only [seval,EMV,fld_27_2,sz_25,fld_25_0,sz_2,ag_2,hb46,hb48]
 refine SpecS.by (r33_far_spec hy47) (by simp only [seval,FMV,hb46,hb48]) ?_
 simp only [seval,EMV,hb46,hb48]
 cases h
 simp only [seval,FMV,hb46,hb48]
 refine .bind fun y15 hy49=>.ite (fun hb50=>?_) (fun hb50=>?_)
 refine .region fun e h=>?_
 simp only [seval,EMV,fld_27_2,sz_25,fld_25_0,sz_2,ag_2,hb46,hb48,hb50]
 refine SpecS.by (r33_far_spec hy45) (by simp only [seval,FMV,hb46,hb48,hb50]) ?_
 simp only [seval,EMV,fld_27_2,sz_25,fld_25_0,sz_2,ag_2,hb46,hb48,hb50]
 refine SpecS.by (r33_far_spec hy47) (by simp only [seval,FMV,hb46,hb48,hb50]) ?_
 simp only [seval,EMV,fld_27_2,sz_25,fld_25_1,sz_2,ag_2,hb46,hb48,hb50]
 refine SpecS.by (r33_far_spec hy49) (by simp only [seval,FMV,hb46,hb48,hb50]) ?_
 simp only [seval,EMV,hb46,hb48,hb50]
 cases h
 simp only [seval,FMV,hb46,hb48,hb50]
 refine .bind fun y16 hy51=>.region fun e h=>?_
 simp only [seval,EMV,fld_27_2,sz_25,fld_25_0,sz_2,ag_2,hb46,hb48,hb50]
 refine SpecS.by (r33_far_spec hy45) (by simp only [seval,FMV,hb46,hb48,hb50]) ?_
 simp only [seval,EMV,fld_27_2,sz_25,fld_25_0,sz_2,ag_2,hb46,hb48,hb50]
 refine SpecS.by (r33_far_spec hy47) (by simp only [seval,FMV,hb46,hb48,hb50]) ?_
 simp only [seval,EMV,fld_27_2,sz_25,fld_25_1,sz_2,ag_2,hb46,hb48,hb50]
 refine SpecS.by (r33_far_spec hy49) (by simp only [seval,FMV,hb46,hb48,hb50]) ?_
 simp only [seval,EMV,fld_27_2,sz_25,fld_25_1,sz_2,ag_2,hb46,hb48,hb50]
 refine SpecS.by (r33_far_spec hy51) (by simp only [seval,FMV,hb46,hb48,hb50]) ?_
 simp only [seval,EMV,hb46,hb48,hb50]
 cases h
 simp only [seval,FMV,hb46,hb48,hb50]
 intro v4
 refine Mir.toK (.cond rfl (fun hb53=>?_) (fun hb53=>?_))
 refine .sR fun e h=>?_
 simp only [seval,EMV]
 refine mU e (.ret fun e h=>?_) h
 cases h
 simp only [seval,FMV,Tryz.results35]
 refine .skip (Mir.toK (.sR fun e h=>?_))
 simp only [seval,EMV]
 refine mU e (.ret fun e h=>?_) h
 cases h
 simp only [seval,FMV,Tryz.results35]
def r46_word (a0 : Int) (a1 : Int) : Option ApiWord := some (ApiWord.mk a0 a1)
theorem r46_word_spec {a0 : Int} {a1 : Int} {y : ApiWord} (h : r46_word a0 a1 = some y) : Spec gP 37 [.d (.int .u8 a0), .d (.int .i64 a1)] (.agg [.d (.int .u8 y.Letter), .d (.int .i64 y.Value)]) := by
 refine spec_mir Tryz.func37 rfl (by kernel_rfl) (by kernel_rfl) (fun y : ApiWord => .agg [.d (.int .u8 y.Letter), .d (.int .i64 y.Value)]) ?_ h
 unfold r46_word
 simp only [List.replicate, List.length, nS, nA, Tryz.ntmps37, SV]
 refine .sR fun e h=>?_
 simp only [seval,EMV,zero_77]
 refine mU e (.sR fun e h=>?_) h
 simp only [seval,EMV,zero_77,pl_77,sz_77]
 refine mU e (.ret fun e h=>?_) h
 cases h
 simp only [seval,FMV,Tryz.results37,ag_77,sz_77]
def r46_line (a0 : (List ApiWord)) : Option ApiBlock := some (ApiBlock.mk false a0 [])
theorem r46_line_specF {a0 : (List ApiWord)} {y : ApiBlock} (h : r46_line a0 = some y) : Spec gP 36 [.full (List.map encApiWord a0)] (.agg [.d (.bool y.Skip), .full (List.map encApiWord y.Words), .d (.str y.Comment)]) := by
 refine specF_mir Tryz.func36 rfl (by kernel_rfl) (by kernel_rfl) (fun y : ApiBlock => .agg [.d (.bool y.Skip), .full (List.map encApiWord y.Words), .d (.str y.Comment)]) ?_ h
 unfold r46_line
 simp only [List.replicate, List.length, nS, nA, Tryz.ntmps36, SV]
 refine .sR fun e h=>?_
 simp only [seval,EMV,zero_31]
 refine mU e (.sR fun e h=>?_) h
 simp only [seval,EMV,zero_31,pl_31,sz_31]
 refine mU e (.ret fun e h=>?_) h
 cases h
 simp only [seval,FMV,Tryz.results36,ag_31,sz_31]
def r46_Move (a0 : ApiPos) (a1 : ApiMove) : Option (ApiBlock × Int) := bindO (r33_Valid a0 a1) fun (y1 : Int) => if (y1 != 0) = true then some (ApiBlock.mk false [] [], y1) else if (decide (a1.Rate > 1000000000000)) = true then some (ApiBlock.mk false [] [], 11) else bindO (r46_word 71 (IntKind.i64.wrap (1000 * (IntKind.i64.wrap (a1.Kind - 1))))) fun (y2 : ApiWord) => bindO (r46_word 88 a1.To.X) fun (y3 : ApiWord) => bindO (r46_word 89 a1.To.Y) fun (y4 : ApiWord) => bindO (r46_word 90 a1.To.Z) fun (y5 : ApiWord) => bindO (r46_line [y2, y3, y4, y5]) fun (y6 : ApiBlock) => if ((a1.Kind == 3) || (a1.Kind == 4)) = true then bindO (r46_word 73 (IntKind.i64.wrap (a1.Center.X - a0.X))) fun (y7 : ApiWord) => bindO (r46_word 74 (IntKind.i64.wrap (a1.Center.Y - a0.Y))) fun (y8 : ApiWord) => guardO (okLen (y6.Words.length + 2)) ( if (a1.Kind != 1) = true then bindO (r46_word 70 a1.Rate) fun (y9 : ApiWord) => guardO (okLen (y6.Words.length + 2 + 1)) ( some (ApiBlock.mk y6.Skip (y6.Words ++ [y7, y8] ++ [y9]) y6.Comment, 0)) else some (ApiBlock.mk y6.Skip (y6.Words ++ [y7, y8]) y6.Comment, 0)) else if (a1.Kind != 1) = true then bindO (r46_word 70 a1.Rate) fun (y10 : ApiWord) => guardO (okLen (y6.Words.length + 1)) ( some (ApiBlock.mk y6.Skip (y6.Words ++ [y10]) y6.Comment, 0)) else some (y6, 0)
theorem r46_Move_spec {a0 : ApiPos} {a1 : ApiMove} {y : ApiBlock × Int} (h : r46_Move a0 a1 = some y) : Spec gP 11 [.agg [.d (.int .i64 a0.X), .d (.int .i64 a0.Y), .d (.int .i64 a0.Z)], .agg [.d (.int .i64 a1.Kind), .d (.int .i64 a1.To.X), .d (.int .i64 a1.To.Y), .d (.int .i64 a1.To.Z), .d (.int .i64 a1.Center.X), .d (.int .i64 a1.Center.Y), .d (.int .i64 a1.Rate)]] (.tuple [.agg [.d (.bool y.1.Skip), .d (.list (List.map encApiWord y.1.Words)), .d (.str y.1.Comment)], .d (.int .i64 y.2)]) := by
 refine spec_mir Tryz.func11 rfl (by kernel_rfl) (by kernel_rfl) (fun y : ApiBlock × Int => .tuple [.agg [.d (.bool y.1.Skip), .d (.list (List.map encApiWord y.1.Words)), .d (.str y.1.Comment)], .d (.int .i64 y.2)]) ?_ h
 unfold r46_Move
 simp only [List.replicate, List.length, nS, nA, Tryz.ntmps11, SV]
 refine .sR fun e h=>?_
 simp only [seval,EMV,zero_31]
 refine mU e (.seqK (.seqK (.bind fun y1 hy1=>.region fun e h=>?_))) h
 simp only [seval,EMV,ag_23,sz_23,ag_27,sz_27]
 refine SpecS.by (r33_Valid_spec hy1) (by simp only [seval,FMV]) ?_
 simp only [seval,EMV]
 refine mU e (.sR fun e h=>?_) h
 simp only [seval,EMV]
 refine mU e (.cond rfl (fun hb2=>?_) (fun hb2=>?_)) h
 refine .sR fun e h=>?_
 simp only [seval,EMV,zero_31,pl_31,sz_31]
 refine mU e (.ret fun e h=>?_) h
 cases h
 simp only [seval,FMV,Tryz.results11,ag_31,sz_31]
 refine .skip (Mir.toK (.seqK (.sR fun e h=>?_)))
 simp only [seval,EMV,fld_27_3,sz_2,ag_2]
 refine mU e (.cond rfl (fun hb3=>?_) (fun hb3=>?_)) h
 refine .sR fun e h=>?_
 simp only [seval,EMV,zero_31,pl_31,sz_31]
 refine mU e (.ret fun e h=>?_) h
 cases h
 simp only [seval,FMV,Tryz.results11,ag_31,sz_31]
 refine .skip (Mir.toK (.seqK (.bind fun y2 hy4=>.bind fun y3 hy5=>.bind fun y4 hy6=>.bind fun y5 hy7=>.bind fun y6 hy8=>.regionD [] (by kernel_rfl) fun e h=>?_)))
 simp only [seval,EMV,SB,fld_27_0,sz_3,ag_3]
 refine Spec.by (r46_word_spec hy4) (by simp only [seval,FMV]) ?_
 simp only [seval,EMV,SB,fld_27_1,sz_23,fld_23_0,sz_2,ag_2]
 refine Spec.by (r46_word_spec hy5) (by simp only [seval,FMV]) ?_
 simp only [seval,EMV,SB,fld_27_1,sz_23,fld_23_1,sz_2,ag_2]
 refine Spec.by (r46_word_spec hy6) (by simp only [seval,FMV]) ?_
 simp only [seval,EMV,SB,fld_27_1,sz_23,fld_23_2,sz_2,ag_2]
 refine Spec.by (r46_word_spec hy7) (by simp only [seval,FMV]) ?_
 simp only [seval,EMV,SB,und_29,sz_77,zero_77,(oL 8)]
 refine Spec.byF (r46_line_specF hy8) (by simp only [seval,FMV]) ?_
 simp only [seval,EMV,SB,zero_31,sz_31]
 refine mU e (.seqK (.seqK (.joinV ([U,U,.ptr 0 0,.ptr 1 0,.ptr 2 0,U,U,.ptr 3 0,U,U,U,U,U,U,U,U,U,U,U,U,U,U,U,U,U,U,U,U,U,U,U,U,U,U,U,U,U,U,U,U,U,U,U,U,U,.d (.bool ((a1.Kind == 3) || (a1.Kind == 4)))] ++ us 31) ⟨[[.d (.int .i64 a0.X),.d (.int .i64 a0.Y),.d (.int .i64 a0.Z)],[.d (.int .i64 a1.Kind),.d (.int .i64 a1.To.X),.d (.int .i64 a1.To.Y),.d (.int .i64 a1.To.Z),.d (.int .i64 a1.Center.X),.d (.int .i64 a1.Center.Y),.d (.int .i64 a1.Rate)],[.d (.bool false),.nil,.d (.str [])],[.d (.bool y6.Skip),.full (List.map encApiWord y6.Words),.d (.str y6.Comment)]],[]⟩ rfl ?_ ?_))) h
 refine SWs.region ?_
 rcases Bool.eq_false_or_eq_true (a1.Kind == 3) with hb9 | hb9
 simp only [seval,EMV,SL,PB,fld_27_0,sz_3,ag_3,hb9]
 simp only [seval,EMV,SL,PB,fld_27_0,sz_3,ag_3,hb9]
 refine Mir.toK (.cond rfl (fun hb10=>?_) (fun hb10=>?_))
 refine .bind fun y7 hy11=>.bind fun y8 hy12=>.guard fun q13=>.regionD [] (by kernel_rfl) fun e h=>?_
 simp only [seval,EMV,SB,fld_31_1,sz_29,ag_29,fld_27_2,sz_25,fld_25_0,sz_2,ag_2,fld_23_0]
 refine Spec.by (r46_word_spec hy11) (by simp only [seval,FMV]) ?_
 simp only [seval,EMV,SB,fld_27_2,sz_25,fld_25_1,sz_2,ag_2,fld_23_1]
 refine Spec.by (r46_word_spec hy12) (by simp only [seval,FMV]) ?_
 simp only [seval,EMV,SB,und_29,sz_77,zero_77,(oL 4),app_29,al_ApiWord,q13,fld_31_1,sz_29]
 refine mU e (.seqK (.sR fun e h=>?_)) h
 simp only [seval,EMV,fld_27_0,sz_3,ag_3]
 refine mU e (.cond rfl (fun hb14=>?_) (fun hb14=>?_)) h
 refine .bind fun y9 hy15=>.guard fun q16=>.regionD [] (by kernel_rfl) fun e h=>?_
 simp only [seval,EMV,SB,fld_31_1,sz_29,ag_29,fld_27_3,sz_2,ag_2]
 refine Spec.by (r46_word_spec hy15) (by simp only [seval,FMV]) ?_
 simp only [seval,EMV,SB,und_29,sz_77,zero_77,(oL 2),app_29,al_ApiWord,xLA,q16,fld_31_1,sz_29]
 refine mU e (.sR fun e h=>?_) h
 simp only [seval,EMV,ag_31,sz_31]
 refine mU e (.ret fun e h=>?_) h
 cases h
 simp only [seval,FMV,Tryz.results11,ag_31,sz_31]
 refine .skip (Mir.toK (.sR fun e h=>?_))
 simp only [seval,EMV,ag_31,sz_31]
 refine mU e (.ret fun e h=>?_) h
 cases h
 simp only [seval,FMV,Tryz.results11,ag_31,sz_31]
 refine .skip (Mir.toK (.seqK (.sR fun e h=>?_)))
 simp only [seval,EMV,fld_27_0,sz_3,ag_3]
 refine mU e (.cond rfl (fun hb17=>?_) (fun hb17=>?_)) h
 refine .bind fun y10 hy18=>.guard fun q19=>.regionD [] (by kernel_rfl) fun e h=>?_
 simp only [seval,EMV,SB,fld_31_1,sz_29,ag_29,fld_27_3,sz_2,ag_2]
 refine Spec.by (r46_word_spec hy18) (by simp only [seval,FMV]) ?_
 simp only [seval,EMV,SB,und_29,sz_77,zero_77,(oL 2),app_29,al_ApiWord,q19,fld_31_1,sz_29]
 refine mU e (.sR fun e h=>?_) h
 simp only [seval,EMV,ag_31,sz_31]
 refine mU e (.ret fun e h=>?_) h
 cases h
 simp only [seval,FMV,Tryz.results11,ag_31,sz_31]
 refine .skip (Mir.toK (.sR fun e h=>?_))
 simp only [seval,EMV,ag_31,sz_31]
 refine mU e (.ret fun e h=>?_) h
 cases h
 simp only [seval,FMV,Tryz.results11,ag_31,sz_31]
def r46_Change (a0 : Int) : Option ((List ApiBlock) × Int) := if ((decide (a0 < 1)) || (decide (a0 > 999))) = true then some ([], 1) else bindO (r46_word 84 (IntKind.i64.wrap (1000 * a0))) fun (y1 : ApiWord) => bindO (r46_word 77 6000) fun (y2 : ApiWord) => bindO (r46_line [y1, y2]) fun (y3 : ApiBlock) => bindO (r46_word 71 43000) fun (y4 : ApiWord) => bindO (r46_word 72 (IntKind.i64.wrap (1000 * a0))) fun (y5 : ApiWord) => bindO (r46_line [y4, y5]) fun (y6 : ApiBlock) => some ([y3, y6], 0)
theorem r46_Change_spec {a0 : Int} {y : (List ApiBlock) × Int} (h : r46_Change a0 = some y) : Spec gP 14 [.d (.int .i64 a0)] (.tuple [.d (.list (List.map encApiBlock y.1)), .d (.int .i64 y.2)]) := by
 refine spec_mir Tryz.func14 rfl (by kernel_rfl) (by kernel_rfl) (fun y : (List ApiBlock) × Int => .tuple [.d (.list (List.map encApiBlock y.1)), .d (.int .i64 y.2)]) ?_ h
 unfold r46_Change
 simp only [List.replicate, List.length, nS, nA, Tryz.ntmps14, SV]
 refine .sR fun e h=>?_
 simp only [seval,EMV]
 refine mU e (.seqK (.seqK (.joinV ([.d (.int .i64 a0),U,U,U,U,U,U,U,U,U,.d (.bool ((decide (a0 < 1)) || (decide (a0 > 999))))] ++ us 13) ⟨[],[]⟩ rfl ?_ ?_))) h
 refine SWs.region ?_
 rcases Bool.eq_false_or_eq_true (decide (a0 < 1)) with hb1 | hb1
 simp only [seval,EMV,SL,PB,hb1]
 simp only [seval,EMV,SL,PB,hb1]
 refine Mir.toK (.cond rfl (fun hb3=>?_) (fun hb3=>?_))
 refine .sR fun e h=>?_
 simp only [seval,EMV]
 refine mU e (.ret fun e h=>?_) h
 cases h
 simp only [seval,FMV,Tryz.results14]
 refine .skip (Mir.toK (.sR fun e h=>?_))
 simp only [seval,EMV]
 refine mU e (.seqK (.bind fun y1 hy4=>.bind fun y2 hy5=>.bind fun y3 hy6=>.bind fun y4 hy7=>.bind fun y5 hy8=>.bind fun y6 hy9=>.region fun e h=>?_)) h
 simp only [seval,EMV]
 refine SpecS.by (r46_word_spec hy4) (by simp only [seval,FMV]) ?_
 simp only [seval,EMV]
 refine SpecS.by (r46_word_spec hy5) (by simp only [seval,FMV]) ?_
 simp only [seval,EMV,und_29,sz_77,zero_77,(oL 4)]
 refine SpecS.byF (r46_line_specF hy6) (by simp only [seval,FMV]) ?_
 simp only [seval,EMV]
 refine SpecS.by (r46_word_spec hy7) (by simp only [seval,FMV]) ?_
 simp only [seval,EMV]
 refine SpecS.by (r46_word_spec hy8) (by simp only [seval,FMV]) ?_
 simp only [seval,EMV,und_29,sz_77,zero_77,(oL 4)]
 refine SpecS.byF (r46_line_specF hy9) (by simp only [seval,FMV]) ?_
 simp only [seval,EMV,und_39,sz_31,zero_31,(oL 6)]
 refine mU e (.ret fun e h=>?_) h
 cases h
 simp only [seval,FMV,Tryz.results14]
def r42_codes (a0 : Int) : Option (List Int) := if (a0 == 1) = true then some [0, 1, 2, 3, 80, 81, 82, 83] else if (a0 == 2) = true then some [90, 91] else if (a0 == 3) = true then some [54, 55, 56, 57, 58, 59] else if (a0 == 4) = true then some [43, 49] else some [98, 99]
theorem r42_codes_spec {a0 : Int} {y : (List Int)} (h : r42_codes a0 = some y) : Spec gP 80 [.d (.int .i64 a0)] (.d (.list (List.map (eInt .i64) y))) := by
 refine spec_mir Tryz.func80 rfl (by kernel_rfl) (by kernel_rfl) (fun y : (List Int) => .d (.list (List.map (eInt .i64) y))) ?_ h
 unfold r42_codes
 simp only [List.replicate, List.length, nS, nA, Tryz.ntmps80, SV]
 refine .sR fun e h=>?_
 simp only [seval,EMV,eInt]
 refine mU e (.seqK (.sR fun e h=>?_)) h
 simp only [seval,EMV,eInt]
 refine mU e (.block (.sR fun e h=>?_)) h
 simp only [seval,EMV,eInt]
 refine mU e (.cond rfl (fun hb9=>?_) (fun hb9=>?_)) h
 refine .sR fun e h=>?_
 simp only [seval,EMV,und_121,sz_2,zero_2,(oL 8),eInt]
 refine mU e (.ret fun e h=>?_) h
 cases h
 simp only [seval,FMV,eInt,Tryz.results80]
 refine .sR fun e h=>?_
 simp only [seval,EMV,eInt]
 refine mU e (.cond rfl (fun hb13=>?_) (fun hb13=>?_)) h
 refine .sR fun e h=>?_
 simp only [seval,EMV,und_121,sz_2,zero_2,(oL 2),eInt]
 refine mU e (.ret fun e h=>?_) h
 cases h
 simp only [seval,FMV,eInt,Tryz.results80]
 refine .sR fun e h=>?_
 simp only [seval,EMV,eInt]
 refine mU e (.cond rfl (fun hb16=>?_) (fun hb16=>?_)) h
 refine .sR fun e h=>?_
 simp only [seval,EMV,und_121,sz_2,zero_2,(oL 6),eInt]
 refine mU e (.ret fun e h=>?_) h
 cases h
 simp only [seval,FMV,eInt,Tryz.results80]
 refine .sR fun e h=>?_
 simp only [seval,EMV,eInt]
 refine mU e (.cond rfl (fun hb18=>?_) (fun hb18=>?_)) h
 refine .sR fun e h=>?_
 simp only [seval,EMV,und_121,sz_2,zero_2,(oL 2),eInt]
 refine mU e (.ret fun e h=>?_) h
 cases h
 simp only [seval,FMV,eInt,Tryz.results80]
 refine .skip (Mir.toB (Mir.toK (.sR fun e h=>?_)))
 simp only [seval,EMV,und_121,sz_2,zero_2,(oL 2),eInt]
 refine mU e (.ret fun e h=>?_) h
 cases h
 simp only [seval,FMV,eInt,Tryz.results80]
def r42_Group (a0 : Int) : Option Int := bindX (bindX (bindO (r42_codes 1) fun (y1 : (List Int)) => guardO (okIdx y1) ( rangeX (fun (i1 : Nat) (e1 : Int) (v1 : Unit) => if (a0 == (IntKind.i64.wrap (1000 * e1))) = true then some (.ret (.ret (.ret 1))) else some (.go ())) (fun (v1 : Unit) => some (.go ())) y1 0 ())) fun (v2 : Unit) => bindX (bindO (r42_codes 2) fun (y2 : (List Int)) => guardO (okIdx y2) ( rangeX (fun (i2 : Nat) (e2 : Int) (v3 : Unit) => if (a0 == (IntKind.i64.wrap (1000 * e2))) = true then some (.ret (.ret (.ret 2))) else some (.go ())) (fun (v3 : Unit) => some (.go ())) y2 0 ())) fun (v4 : Unit) => bindX (bindO (r42_codes 3) fun (y3 : (List Int)) => guardO (okIdx y3) ( rangeX (fun (i3 : Nat) (e3 : Int) (v5 : Unit) => if (a0 == (IntKind.i64.wrap (1000 * e3))) = true then some (.ret (.ret (.ret 3))) else some (.go ())) (fun (v5 : Unit) => some (.go ())) y3 0 ())) fun (v6 : Unit) => bindX (bindO (r42_codes 4) fun (y4 : (List Int)) => guardO (okIdx y4) ( rangeX (fun (i4 : Nat) (e4 : Int) (v7 : Unit) => if (a0 == (IntKind.i64.wrap (1000 * e4))) = true then some (.ret (.ret (.ret 4))) else some (.go ())) (fun (v7 : Unit) => some (.go ())) y4 0 ())) fun (v8 : Unit) => bindX (bindO (r42_codes 5) fun (y5 : (List Int)) => guardO (okIdx y5) ( rangeX (fun (i5 : Nat) (e5 : Int) (v9 : Unit) => if (a0 == (IntKind.i64.wrap (1000 * e5))) = true then some (.ret (.ret (.ret 5))) else some (.go ())) (fun (v9 : Unit) => some (.go ())) y5 0 ())) fun (v10 : Unit) => some (.go ())) fun (v11 : Unit) => some 0
theorem r42_Group_spec {a0 : Int} {y : Int} (h : r42_Group a0 = some y) : Spec gP 39 [.d (.int .i64 a0)] (.d (.int .i64 y)) := by
 refine spec_mir Tryz.func39 rfl (by kernel_rfl) (by kernel_rfl) (fun y : Int => .d (.int .i64 y)) ?_ h
 unfold r42_Group
 simp only [List.replicate, List.length, nS, nA, Tryz.ntmps39, SV]
 refine .sR fun e h=>?_
 simp only [seval,EMV,eInt]
 refine mU e (.seqK (.sR fun e h=>?_)) h
 simp only [seval,EMV,eInt]
 refine mU e (Mir.join (fun v11 : Unit=>(us 26)) (fun v11=>⟨[],[]⟩) (fun _=>rfl) ?_ ?_) h
 refine .block (.loopR 15 (.seqK (.sR fun e h=>?_)))
 simp only [seval,EMV,(nr rfl : (decide ((1 : Int) ≤ 5)) = true),eInt]
 refine mU e (.condT rfl (.skip (Mir.toK (.seqK (Mir.join (fun v2 : Unit=>([.d (.int .i64 a0),U,U,.d (.int .i64 1)] ++ us 22)) (fun v2=>⟨[],[]⟩) (fun _=>rfl) ?_ ?_))))) h
 refine .block (.seqK (.bind fun y1 h1=>.region fun e h=>?_))
 simp only [seval,EMV,eInt]
 refine SpecS.by (r42_codes_spec h1) (by simp only [seval,FMV,eInt]) ?_
 simp only [seval,EMV,eInt]
 refine mU e (.sR fun e h=>?_) h
 simp only [seval,EMV,eInt]
 refine mU e (.block (.guard fun q1=>Mir.range (fun (i1 : Nat) (v1 : Unit)=>([.d (.int .i64 a0),U,U,.d (.int .i64 1),.d (.list (List.map (eInt .i64) y1)),.d (.int .i64 (i1 : Int))] ++ us 20)) (fun i1 v1=>⟨[],[]⟩) q1 (fun _ _=>rfl) (by simp only [seval,FMV,eInt,zNI]) (by simp only [seval,FMV,eInt,zNI]) ?_ ?_)) h
 intro i1 e1 v1 q2
 refine .seqK (.sR fun e h=>?_)
 simp only [seval,EMV,und_121,q2,eInt]
 refine mU e (.condT rfl (.skip (Mir.toK (.seqK (.block (.sR fun e h=>?_)))))) h
 simp only [seval,EMV,und_121,sz_2,q2,Int.toNat_natCast,ag_2,eInt]
 refine mU e (.cond rfl (fun h2=>?_) (fun h2=>?_)) h
 refine .sR fun e h=>?_
 simp only [seval,EMV,eInt]
 refine mU e (.ret fun e h=>?_) h
 cases h
 simp only [seval,FMV,eInt,Tryz.results39]
 refine .skip (Mir.toB (Mir.toK (.region fun e h=>?_)))
 simp only [seval,EMV,eInt]
 cases h
 simp only [seval,FMV,eInt,Tryz.results39,q2]
 intro v1 q3
 refine .seqK (.sR fun e h=>?_)
 simp only [seval,EMV,und_121,q3,eInt]
 refine mU e (.condF rfl (.exit fun e h=>?_)) h
 cases h
 simp only [seval,FMV,eInt,Tryz.results39]
 intro v2
 refine Mir.toK (.region fun e h=>?_)
 simp only [seval,EMV,(nr rfl : IntKind.i64.wrap 2 = 2),eInt]
 refine Mir.useN (e := e) ?_ h
 refine .seqK (.sR fun e h=>?_)
 simp only [seval,EMV,(nr rfl : (decide ((2 : Int) ≤ 5)) = true),eInt]
 refine mU e (.condT rfl (.skip (Mir.toK (.seqK (Mir.join (fun v4 : Unit=>([.d (.int .i64 a0),U,U,.d (.int .i64 2)] ++ us 22)) (fun v4=>⟨[],[]⟩) (fun _=>rfl) ?_ ?_))))) h
 refine .block (.seqK (.bind fun y2 h3=>.region fun e h=>?_))
 simp only [seval,EMV,eInt]
 refine SpecS.by (r42_codes_spec h3) (by simp only [seval,FMV,eInt]) ?_
 simp only [seval,EMV,eInt]
 refine mU e (.sR fun e h=>?_) h
 simp only [seval,EMV,eInt]
 refine mU e (.block (.guard fun q4=>Mir.range (fun (i2 : Nat) (v3 : Unit)=>([.d (.int .i64 a0),U,U,.d (.int .i64 2),.d (.list (List.map (eInt .i64) y2)),.d (.int .i64 (i2 : Int))] ++ us 20)) (fun i2 v3=>⟨[],[]⟩) q4 (fun _ _=>rfl) (by simp only [seval,FMV,eInt,zNI]) (by simp only [seval,FMV,eInt,zNI]) ?_ ?_)) h
 intro i2 e2 v3 q5
 refine .seqK (.sR fun e h=>?_)
 simp only [seval,EMV,und_121,q5,eInt]
 refine mU e (.condT rfl (.skip (Mir.toK (.seqK (.block (.sR fun e h=>?_)))))) h
 simp only [seval,EMV,und_121,sz_2,q5,Int.toNat_natCast,ag_2,eInt]
 refine mU e (.cond rfl (fun h4=>?_) (fun h4=>?_)) h
 refine .sR fun e h=>?_
 simp only [seval,EMV,eInt]
 refine mU e (.ret fun e h=>?_) h
 cases h
 simp only [seval,FMV,eInt,Tryz.results39]
 refine .skip (Mir.toB (Mir.toK (.region fun e h=>?_)))
 simp only [seval,EMV,eInt]
 cases h
 simp only [seval,FMV,eInt,Tryz.results39,q5]
 intro v3 q6
 refine .seqK (.sR fun e h=>?_)
 simp only [seval,EMV,und_121,q6,eInt]
 refine mU e (.condF rfl (.exit fun e h=>?_)) h
 cases h
 simp only [seval,FMV,eInt,Tryz.results39]
 intro v4
 refine Mir.toK (.region fun e h=>?_)
 simp only [seval,EMV,(nr rfl : IntKind.i64.wrap 3 = 3),eInt]
 refine Mir.useN (e := e) ?_ h
 refine .seqK (.sR fun e h=>?_)
 simp only [seval,EMV,(nr rfl : (decide ((3 : Int) ≤ 5)) = true),eInt]
 refine mU e (.condT rfl (.skip (Mir.toK (.seqK (Mir.join (fun v6 : Unit=>([.d (.int .i64 a0),U,U,.d (.int .i64 3)] ++ us 22)) (fun v6=>⟨[],[]⟩) (fun _=>rfl) ?_ ?_))))) h
 refine .block (.seqK (.bind fun y3 h5=>.region fun e h=>?_))
 simp only [seval,EMV,eInt]
 refine SpecS.by (r42_codes_spec h5) (by simp only [seval,FMV,eInt]) ?_
 simp only [seval,EMV,eInt]
 refine mU e (.sR fun e h=>?_) h
 simp only [seval,EMV,eInt]
 refine mU e (.block (.guard fun q7=>Mir.range (fun (i3 : Nat) (v5 : Unit)=>([.d (.int .i64 a0),U,U,.d (.int .i64 3),.d (.list (List.map (eInt .i64) y3)),.d (.int .i64 (i3 : Int))] ++ us 20)) (fun i3 v5=>⟨[],[]⟩) q7 (fun _ _=>rfl) (by simp only [seval,FMV,eInt,zNI]) (by simp only [seval,FMV,eInt,zNI]) ?_ ?_)) h
 intro i3 e3 v5 q8
 refine .seqK (.sR fun e h=>?_)
 simp only [seval,EMV,und_121,q8,eInt]
 refine mU e (.condT rfl (.skip (Mir.toK (.seqK (.block (.sR fun e h=>?_)))))) h
 simp only [seval,EMV,und_121,sz_2,q8,Int.toNat_natCast,ag_2,eInt]
 refine mU e (.cond rfl (fun h6=>?_) (fun h6=>?_)) h
 refine .sR fun e h=>?_
 simp only [seval,EMV,eInt]
 refine mU e (.ret fun e h=>?_) h
 cases h
 simp only [seval,FMV,eInt,Tryz.results39]
 refine .skip (Mir.toB (Mir.toK (.region fun e h=>?_)))
 simp only [seval,EMV,eInt]
 cases h
 simp only [seval,FMV,eInt,Tryz.results39,q8]
 intro v5 q9
 refine .seqK (.sR fun e h=>?_)
 simp only [seval,EMV,und_121,q9,eInt]
 refine mU e (.condF rfl (.exit fun e h=>?_)) h
 cases h
 simp only [seval,FMV,eInt,Tryz.results39]
 intro v6
 refine Mir.toK (.region fun e h=>?_)
 simp only [seval,EMV,(nr rfl : IntKind.i64.wrap 4 = 4),eInt]
 refine Mir.useN (e := e) ?_ h
 refine .seqK (.sR fun e h=>?_)
 simp only [seval,EMV,(nr rfl : (decide ((4 : Int) ≤ 5)) = true),eInt]
 refine mU e (.condT rfl (.skip (Mir.toK (.seqK (Mir.join (fun v8 : Unit=>([.d (.int .i64 a0),U,U,.d (.int .i64 4)] ++ us 22)) (fun v8=>⟨[],[]⟩) (fun _=>rfl) ?_ ?_))))) h
 refine .block (.seqK (.bind fun y4 h7=>.region fun e h=>?_))
 simp only [seval,EMV,eInt]
 refine SpecS.by (r42_codes_spec h7) (by simp only [seval,FMV,eInt]) ?_
 simp only [seval,EMV,eInt]
 refine mU e (.sR fun e h=>?_) h
 simp only [seval,EMV,eInt]
 refine mU e (.block (.guard fun q10=>Mir.range (fun (i4 : Nat) (v7 : Unit)=>([.d (.int .i64 a0),U,U,.d (.int .i64 4),.d (.list (List.map (eInt .i64) y4)),.d (.int .i64 (i4 : Int))] ++ us 20)) (fun i4 v7=>⟨[],[]⟩) q10 (fun _ _=>rfl) (by simp only [seval,FMV,eInt,zNI]) (by simp only [seval,FMV,eInt,zNI]) ?_ ?_)) h
 intro i4 e4 v7 q11
 refine .seqK (.sR fun e h=>?_)
 simp only [seval,EMV,und_121,q11,eInt]
 refine mU e (.condT rfl (.skip (Mir.toK (.seqK (.block (.sR fun e h=>?_)))))) h
 simp only [seval,EMV,und_121,sz_2,q11,Int.toNat_natCast,ag_2,eInt]
 refine mU e (.cond rfl (fun h8=>?_) (fun h8=>?_)) h
 refine .sR fun e h=>?_
 simp only [seval,EMV,eInt]
 refine mU e (.ret fun e h=>?_) h
 cases h
 simp only [seval,FMV,eInt,Tryz.results39]
 refine .skip (Mir.toB (Mir.toK (.region fun e h=>?_)))
 simp only [seval,EMV,eInt]
 cases h
 simp only [seval,FMV,eInt,Tryz.results39,q11]
 intro v7 q12
 refine .seqK (.sR fun e h=>?_)
 simp only [seval,EMV,und_121,q12,eInt]
 refine mU e (.condF rfl (.exit fun e h=>?_)) h
 cases h
 simp only [seval,FMV,eInt,Tryz.results39]
 intro v8
 refine Mir.toK (.region fun e h=>?_)
 simp only [seval,EMV,(nr rfl : IntKind.i64.wrap 5 = 5),eInt]
 refine Mir.useN (e := e) ?_ h
 refine .seqK (.sR fun e h=>?_)
 simp only [seval,EMV,(nr rfl : (decide ((5 : Int) ≤ 5)) = true),eInt]
 refine mU e (.condT rfl (.skip (Mir.toK (.seqK (Mir.join (fun v10 : Unit=>([.d (.int .i64 a0),U,U,.d (.int .i64 5)] ++ us 22)) (fun v10=>⟨[],[]⟩) (fun _=>rfl) ?_ ?_))))) h
 refine .block (.seqK (.bind fun y5 h9=>.region fun e h=>?_))
 simp only [seval,EMV,eInt]
 refine SpecS.by (r42_codes_spec h9) (by simp only [seval,FMV,eInt]) ?_
 simp only [seval,EMV,eInt]
 refine mU e (.sR fun e h=>?_) h
 simp only [seval,EMV,eInt]
 refine mU e (.block (.guard fun q13=>Mir.range (fun (i5 : Nat) (v9 : Unit)=>([.d (.int .i64 a0),U,U,.d (.int .i64 5),.d (.list (List.map (eInt .i64) y5)),.d (.int .i64 (i5 : Int))] ++ us 20)) (fun i5 v9=>⟨[],[]⟩) q13 (fun _ _=>rfl) (by simp only [seval,FMV,eInt,zNI]) (by simp only [seval,FMV,eInt,zNI]) ?_ ?_)) h
 intro i5 e5 v9 q14
 refine .seqK (.sR fun e h=>?_)
 simp only [seval,EMV,und_121,q14,eInt]
 refine mU e (.condT rfl (.skip (Mir.toK (.seqK (.block (.sR fun e h=>?_)))))) h
 simp only [seval,EMV,und_121,sz_2,q14,Int.toNat_natCast,ag_2,eInt]
 refine mU e (.cond rfl (fun h10=>?_) (fun h10=>?_)) h
 refine .sR fun e h=>?_
 simp only [seval,EMV,eInt]
 refine mU e (.ret fun e h=>?_) h
 cases h
 simp only [seval,FMV,eInt,Tryz.results39]
 refine .skip (Mir.toB (Mir.toK (.region fun e h=>?_)))
 simp only [seval,EMV,eInt]
 cases h
 simp only [seval,FMV,eInt,Tryz.results39,q14]
 intro v9 q15
 refine .seqK (.sR fun e h=>?_)
 simp only [seval,EMV,und_121,q15,eInt]
 refine mU e (.condF rfl (.exit fun e h=>?_)) h
 cases h
 simp only [seval,FMV,eInt,Tryz.results39]
 intro v10
 refine Mir.toK (.region fun e h=>?_)
 simp only [seval,EMV,(nr rfl : IntKind.i64.wrap 6 = 6),eInt]
 refine Mir.useN (e := e) ?_ h
 refine .seqK (.sR fun e h=>?_)
 simp only [seval,EMV,(nr rfl : (decide ((6 : Int) ≤ 5)) = false),eInt]
 refine mU e (.condF rfl (.exit fun e h=>?_)) h
 cases h
 simp only [seval,FMV,eInt,Tryz.results39]
 intro v11
 refine Mir.toK (.sR fun e h=>?_)
 simp only [seval,EMV,eInt]
 refine mU e (.ret fun e h=>?_) h
 cases h
 simp only [seval,FMV,eInt,Tryz.results39]
def r46_Valid (a0 : R46Options) : Option Int := bindO (bindO (r42_Group a0.Work) fun (y1 : Int) => if (y1 != 3) = true then some true else if (decide (a0.Numbers < 0)) = true then some true else if (decide (a0.Numbers > 1000)) = true then some true else if (a0.Fold != 0) = true then if (decide (a0.Fold < 2)) = true then some true else some (decide (a0.Fold > 100)) else some false) fun (v1 : Bool) => if v1 = true then some 1 else some 0
theorem r46_Valid_spec {a0 : R46Options} {y : Int} (h : r46_Valid a0 = some y) : Spec gP 17 [.agg [.d (.int .i64 a0.Work), .d (.bool a0.Compress), .d (.int .i64 a0.Numbers), .d (.int .i64 a0.Fold)]] (.d (.int .i64 y)) := by
 refine spec_mir Tryz.func17 rfl (by kernel_rfl) (by kernel_rfl) (fun y : Int => .d (.int .i64 y)) ?_ h
 unfold r46_Valid
 simp only [List.replicate, List.length, nS, nA, Tryz.ntmps17, SV]
 refine .sR fun e h=>?_
 simp only [seval,EMV]
 refine mU e (.seqK (.seqK (Mir.joinO (fun v1 : Bool=>[U,U,U,U,U,U,U,U,U,U,U,U,U,U,U,U,U,U,U,U,U,U,U,U,U,U,U,U,U,U,U,.d (.bool v1)]) (fun v1=>⟨[[.d (.int .i64 a0.Work),.d (.bool a0.Compress),.d (.int .i64 a0.Numbers),.d (.int .i64 a0.Fold)]],[]⟩) (fun _=>rfl) ?_ ?_))) h
 refine .bind fun y1 hy1=>.ite (fun hb2=>?_) (fun hb2=>?_)
 refine .region fun e h=>?_
 simp only [seval,EMV,fld_38_0,sz_2,ag_2,hb2]
 refine SpecS.by (r42_Group_spec hy1) (by simp only [seval,FMV,hb2]) ?_
 simp only [seval,EMV,hb2]
 cases h
 simp only [seval,FMV,hb2]
 refine .ite (fun hb3=>?_) (fun hb3=>?_)
 refine .region fun e h=>?_
 simp only [seval,EMV,fld_38_0,sz_2,ag_2,hb2,hb3]
 refine SpecS.by (r42_Group_spec hy1) (by simp only [seval,FMV,hb2,hb3]) ?_
 simp only [seval,EMV,fld_38_2,sz_2,ag_2,hb2,hb3]
 cases h
 simp only [seval,FMV,hb2,hb3]
 refine .ite (fun hb4=>?_) (fun hb4=>?_)
 refine .region fun e h=>?_
 simp only [seval,EMV,fld_38_0,sz_2,ag_2,hb2,hb3,hb4]
 refine SpecS.by (r42_Group_spec hy1) (by simp only [seval,FMV,hb2,hb3,hb4]) ?_
 simp only [seval,EMV,fld_38_2,sz_2,ag_2,hb2,hb3,hb4]
 cases h
 simp only [seval,FMV,hb2,hb3,hb4]
 refine .ite (fun hb5=>?_) (fun hb5=>?_)
 refine .ite (fun hb6=>?_) (fun hb6=>?_)
 refine .region fun e h=>?_
 simp only [seval,EMV,fld_38_0,sz_2,ag_2,hb2,hb3,hb4,hb5,hb6]
 refine SpecS.by (r42_Group_spec hy1) (by simp only [seval,FMV,hb2,hb3,hb4,hb5,hb6]) ?_
 simp only [seval,EMV,fld_38_2,sz_2,ag_2,fld_38_3,sz_3,ag_3,hb2,hb3,hb4,hb5,hb6]
 cases h
 simp only [seval,FMV,hb2,hb3,hb4,hb5,hb6]
 refine .region fun e h=>?_
 simp only [seval,EMV,fld_38_0,sz_2,ag_2,hb2,hb3,hb4,hb5,hb6]
 refine SpecS.by (r42_Group_spec hy1) (by simp only [seval,FMV,hb2,hb3,hb4,hb5,hb6]) ?_
 simp only [seval,EMV,fld_38_2,sz_2,ag_2,fld_38_3,sz_3,ag_3,hb2,hb3,hb4,hb5,hb6]
 cases h
 simp only [seval,FMV,hb2,hb3,hb4,hb5,hb6]
 refine .region fun e h=>?_
 simp only [seval,EMV,fld_38_0,sz_2,ag_2,hb2,hb3,hb4,hb5]
 refine SpecS.by (r42_Group_spec hy1) (by simp only [seval,FMV,hb2,hb3,hb4,hb5]) ?_
 simp only [seval,EMV,fld_38_2,sz_2,ag_2,fld_38_3,sz_3,ag_3,hb2,hb3,hb4,hb5]
 cases h
 simp only [seval,FMV,hb2,hb3,hb4,hb5]
 intro v1
 refine Mir.toK (.cond rfl (fun hb8=>?_) (fun hb8=>?_))
 refine .sR fun e h=>?_
 simp only [seval,EMV]
 refine mU e (.ret fun e h=>?_) h
 cases h
 simp only [seval,FMV,Tryz.results17]
 refine .skip (Mir.toK (.sR fun e h=>?_))
 simp only [seval,EMV]
 refine mU e (.ret fun e h=>?_) h
 cases h
 simp only [seval,FMV,Tryz.results17]
def r41_Equal (a0 : ApiBlock) (a1 : ApiBlock) : Option Bool := if (!(a0.Skip == a1.Skip) || (!(a0.Comment == a1.Comment) || ((a0.Words.length : Int) != (a1.Words.length : Int)))) = true then some false else bindX (guardO (okIdx a0.Words) ( rangeX (fun (i1 : Nat) (e1 : ApiWord) (v1 : Unit) => bindO (gt a1.Words (i1 : Int)) fun (e2 : ApiWord) => if (!((e1.Letter == e2.Letter) && (e1.Value == e2.Value))) = true then some (.ret (.ret false)) else some (.go ())) (fun (v1 : Unit) => some (.go ())) a0.Words 0 ())) fun (v2 : Unit) => some true
theorem r41_Equal_spec {a0 : ApiBlock} {a1 : ApiBlock} {y : Bool} (h : r41_Equal a0 a1 = some y) : Spec gP 12 [.agg [.d (.bool a0.Skip), .d (.list (List.map encApiWord a0.Words)), .d (.str a0.Comment)], .agg [.d (.bool a1.Skip), .d (.list (List.map encApiWord a1.Words)), .d (.str a1.Comment)]] (.d (.bool y)) := by
 refine spec_mir Tryz.func12 rfl (by kernel_rfl) (by kernel_rfl) (fun y : Bool => .d (.bool y)) ?_ h
 unfold r41_Equal
 simp only [List.replicate, List.length, nS, nA, Tryz.ntmps12, SV]
 refine .sR fun e h=>?_
 simp only [seval,EMV]
 refine mU e (.seqK (.seqK (.joinV ([U,U,.ptr 0 0,.ptr 1 0,U,U,U,U,U,U,U,U,U,U,U,U,U,U,U,U,U,U,U,U,U,U,.d (.bool (!(a0.Skip == a1.Skip) || (!(a0.Comment == a1.Comment) || ((a0.Words.length : Int) != (a1.Words.length : Int)))))] ++ us 18) ⟨[[.d (.bool a0.Skip),.d (.list (List.map encApiWord a0.Words)),.d (.str a0.Comment)],[.d (.bool a1.Skip),.d (.list (List.map encApiWord a1.Words)),.d (.str a1.Comment)]],[]⟩ rfl ?_ ?_))) h
 refine SWs.region ?_
 rcases Bool.eq_false_or_eq_true (a0.Skip == a1.Skip) with hb1 | hb1
 rcases Bool.eq_false_or_eq_true (a0.Comment == a1.Comment) with hb2 | hb2
 simp only [seval,EMV,SL,PB,fld_31_0,sz_4,ag_4,und_4,fld_31_2,sz_9,ag_9,fld_31_1,sz_29,ag_29,und_29,hb1,hb2]
 simp only [seval,EMV,SL,PB,fld_31_0,sz_4,ag_4,und_4,fld_31_2,sz_9,ag_9,hb1,hb2]
 simp only [seval,EMV,SL,PB,fld_31_0,sz_4,ag_4,und_4,hb1]
 refine Mir.toK (.cond rfl (fun hb4=>?_) (fun hb4=>?_))
 refine .sR fun e h=>?_
 simp only [seval,EMV]
 refine mU e (.ret fun e h=>?_) h
 cases h
 simp only [seval,FMV,Tryz.results12]
 refine .skip (Mir.toK (.seqK (.sR fun e h=>?_)))
 simp only [seval,EMV]
 refine mU e (Mir.join (fun v2 : Unit=>(us 45)) (fun v2=>⟨[[.d (.bool a0.Skip),.d (.list (List.map encApiWord a0.Words)),.d (.str a0.Comment)],[.d (.bool a1.Skip),.d (.list (List.map encApiWord a1.Words)),.d (.str a1.Comment)]],[]⟩) (fun _=>rfl) ?_ ?_) h
 refine .block (.guard fun qg69=>Mir.range (fun (i1 : Nat) (v1 : Unit)=>([U,U,.ptr 0 0,.ptr 1 0,U,.d (.int .i64 (i1 : Int))] ++ us 39)) (fun i1 v1=>⟨[[.d (.bool a0.Skip),.d (.list (List.map encApiWord a0.Words)),.d (.str a0.Comment)],[.d (.bool a1.Skip),.d (.list (List.map encApiWord a1.Words)),.d (.str a1.Comment)]],[]⟩) qg69 (fun _ _=>rfl) (by simp only [seval,FMV,zNI]) (by simp only [seval,FMV,zNI]) ?_ ?_)
 intro i1 e1 v1 qr67
 refine .seqK (.sR fun e h=>?_)
 simp only [seval,EMV,fld_31_1,sz_29,ag_29,und_29,qr67]
 refine mU e (.condT rfl (.skip (Mir.toK (.seqK (.block (.seqK (.bind fun e2 q72=>?_))))))) h
 replace q72 := gt_ok q72
 simp only [Int.toNat_natCast] at q72
 refine .regionD [] (by kernel_rfl) fun e h=>?_
 simp only [seval,EMV,SB,fld_31_1,sz_29,ag_29,und_29,sz_77,qr67,Int.toNat_natCast,ag_77,q72,gE_77]
 refine mU e (.cond rfl (fun hb74=>?_) (fun hb74=>?_)) h
 refine .sR fun e h=>?_
 simp only [seval,EMV]
 refine mU e (.ret fun e h=>?_) h
 cases h
 simp only [seval,FMV,Tryz.results12]
 refine .skip (Mir.toB (Mir.toK (.region fun e h=>?_)))
 simp only [seval,EMV]
 cases h
 simp only [seval,FMV,Tryz.results12,qr67]
 intro v1 qd68
 refine .seqK (.sR fun e h=>?_)
 simp only [seval,EMV,fld_31_1,sz_29,ag_29,und_29,qd68]
 refine mU e (.condF rfl (.exit fun e h=>?_)) h
 cases h
 simp only [seval,FMV,Tryz.results12]
 intro v2
 refine Mir.toK (.sR fun e h=>?_)
 simp only [seval,EMV]
 refine mU e (.ret fun e h=>?_) h
 cases h
 simp only [seval,FMV,Tryz.results12]
def r41_Same (a0 : (List ApiBlock)) (a1 : (List ApiBlock)) : Option Bool := if ((a0.length : Int) != (a1.length : Int)) = true then some false else bindX (guardO (okIdx a0) ( rangeX (fun (i1 : Nat) (e1 : ApiBlock) (v1 : Unit) => bindO (gt a1 (i1 : Int)) fun (e2 : ApiBlock) => bindO (r41_Equal e1 e2) fun (y1 : Bool) => if (!y1) = true then some (.ret (.ret false)) else some (.go ())) (fun (v1 : Unit) => some (.go ())) a0 0 ())) fun (v2 : Unit) => some true
theorem r41_Same_spec {a0 : (List ApiBlock)} {a1 : (List ApiBlock)} {y : Bool} (h : r41_Same a0 a1 = some y) : Spec gP 15 [.d (.list (List.map encApiBlock a0)), .d (.list (List.map encApiBlock a1))] (.d (.bool y)) := by
 refine spec_mir Tryz.func15 rfl (by kernel_rfl) (by kernel_rfl) (fun y : Bool => .d (.bool y)) ?_ h
 unfold r41_Same
 simp only [List.replicate, List.length, nS, nA, Tryz.ntmps15, SV]
 refine .sR fun e h=>?_
 simp only [seval,EMV]
 refine mU e (.seqK (.sR fun e h=>?_)) h
 simp only [seval,EMV,und_39]
 refine mU e (.cond rfl (fun hb2=>?_) (fun hb2=>?_)) h
 refine .sR fun e h=>?_
 simp only [seval,EMV]
 refine mU e (.ret fun e h=>?_) h
 cases h
 simp only [seval,FMV,Tryz.results15]
 refine .skip (Mir.toK (.seqK (.sR fun e h=>?_)))
 simp only [seval,EMV]
 refine mU e (Mir.join (fun v2 : Unit=>(us 27)) (fun v2=>⟨[],[]⟩) (fun _=>rfl) ?_ ?_) h
 refine .block (.guard fun qg81=>Mir.range (fun (i1 : Nat) (v1 : Unit)=>([.d (.list (List.map encApiBlock a0)),.d (.list (List.map encApiBlock a1)),U,U,U,.d (.int .i64 (i1 : Int))] ++ us 21)) (fun i1 v1=>⟨[],[]⟩) qg81 (fun _ _=>rfl) (by simp only [seval,FMV,zNI]) (by simp only [seval,FMV,zNI]) ?_ ?_)
 intro i1 e1 v1 qr79
 refine .seqK (.sR fun e h=>?_)
 simp only [seval,EMV,und_39,qr79]
 refine mU e (.condT rfl (.skip (Mir.toK (.seqK (.block (.seqK (.bind fun e2 q85=>?_))))))) h
 replace q85 := gt_ok q85
 simp only [Int.toNat_natCast] at q85
 refine .bind fun y1 hy86=>.regionD [] (by kernel_rfl) fun e h=>?_
 simp only [seval,EMV,SB,und_39,sz_31,qr79,Int.toNat_natCast,ag_31,q85]
 refine Spec.by (r41_Equal_spec hy86) (by simp only [seval,FMV]) ?_
 simp only [seval,EMV,SB]
 refine mU e (.cond rfl (fun hb88=>?_) (fun hb88=>?_)) h
 refine .sR fun e h=>?_
 simp only [seval,EMV]
 refine mU e (.ret fun e h=>?_) h
 cases h
 simp only [seval,FMV,Tryz.results15]
 refine .skip (Mir.toB (Mir.toK (.region fun e h=>?_)))
 simp only [seval,EMV]
 cases h
 simp only [seval,FMV,Tryz.results15,qr79]
 intro v1 qd80
 refine .seqK (.sR fun e h=>?_)
 simp only [seval,EMV,und_39,qd80]
 refine mU e (.condF rfl (.exit fun e h=>?_)) h
 cases h
 simp only [seval,FMV,Tryz.results15]
 intro v2
 refine Mir.toK (.sR fun e h=>?_)
 simp only [seval,EMV]
 refine mU e (.ret fun e h=>?_) h
 cases h
 simp only [seval,FMV,Tryz.results15]
end Go.Proofs.YtejknolljjpodaaGreatDoor
