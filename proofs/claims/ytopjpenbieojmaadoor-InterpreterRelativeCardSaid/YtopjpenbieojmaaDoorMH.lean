import Derived.Test.YtopjpenbieojmaaDoorGx
import Derived.Test.YtopjpenbieojmaaDoorTy
import Derived.Test.YtopjpenbieojmaaDoorMB
namespace Go.Proofs.YtopjpenbieojmaaDoor
open Go.RowKit
open Nat renaming reduceAdd → nA, reduceSub → nS, reduceMul → nM, reduceEqDiff → nE, reduceLeDiff → nL, reduceLT → nT, reduceBEq → nB
open Int renaming reduceLT → iT, reduceToNat → iN, reduceEq → iE
set_option linter.unusedVariables false
set_option linter.unusedSimpArgs false
set_option maxRecDepth 100000
set_option maxHeartbeats 8000000
structure L47Setting where
 Table : R45Table
 From : ApiPos
 deriving DecidableEq
def encL47Setting (x : L47Setting) : List D := [.int .i64 x.Table.Work.e0.X, .int .i64 x.Table.Work.e0.Y, .int .i64 x.Table.Work.e0.Z, .int .i64 x.Table.Work.e1.X, .int .i64 x.Table.Work.e1.Y, .int .i64 x.Table.Work.e1.Z, .int .i64 x.Table.Work.e2.X, .int .i64 x.Table.Work.e2.Y, .int .i64 x.Table.Work.e2.Z, .int .i64 x.Table.Work.e3.X, .int .i64 x.Table.Work.e3.Y, .int .i64 x.Table.Work.e3.Z, .int .i64 x.Table.Work.e4.X, .int .i64 x.Table.Work.e4.Y, .int .i64 x.Table.Work.e4.Z, .int .i64 x.Table.Work.e5.X, .int .i64 x.Table.Work.e5.Y, .int .i64 x.Table.Work.e5.Z, .list (List.map encR45Length x.Table.Lengths), .int .i64 x.From.X, .int .i64 x.From.Y, .int .i64 x.From.Z]
theorem ENMH : type_of% (@encL47Setting.eq_1) := @encL47Setting.eq_1
theorem EMH : type_of% (And.intro @SE <| And.intro @ENMH <| @ENMB) := And.intro @SE <| And.intro @ENMH <| @ENMB
theorem FMH : type_of% (And.intro @SF <| And.intro @ENMH <| @ENMB) := And.intro @SF <| And.intro @ENMH <| @ENMB
def r47_far (a0 : Int) : Option Bool := some ((decide (a0 > 10000000)) || (decide (a0 < (-10000000))))
theorem r47_far_spec {a0 : Int} {y : Bool} (h : r47_far a0 = some y) : Spec gP 23 [.d (.int .i64 a0)] (.d (.bool y)) := by
 refine spec_mir Tryd.func23 rfl (by kernel_rfl) (by kernel_rfl) (fun y : Bool => .d (.bool y)) ?_ h
 unfold r47_far
 simp only [List.replicate, List.length, nS, nA, Tryd.ntmps23, SV]
 refine .sR fun e h=>?_
 simp only [seval,EMH]
 refine mU e (.seqK (.joinV ([U,U,.d (.bool ((decide (a0 > 10000000)) || (decide (a0 < (-10000000)))))] ++ us 6) ⟨[],[]⟩ rfl ?_ ?_)) h
 refine SWs.region ?_
 rcases Bool.eq_false_or_eq_true (decide (a0 > 10000000)) with hb1 | hb1
 simp only [seval,EMH,SL,PB,hb1]
 simp only [seval,EMH,SL,PB,hb1]
 refine Mir.toK (.ret fun e h=>?_)
 cases h
 simp only [seval,FMH,Tryd.results23]
def r47_InRange (a0 : ApiPos) : Option Bool := bindO (bindO (r47_far a0.X) fun (y1 : Bool) => if y1 = true then some false else bindO (r47_far a0.Y) fun (y2 : Bool) => if y2 = true then some false else bindO (r47_far a0.Z) fun (y3 : Bool) => some (!y3)) fun (v1 : Bool) => some v1
theorem r47_InRange_spec {a0 : ApiPos} {y : Bool} (h : r47_InRange a0 = some y) : Spec gP 7 [.agg [.d (.int .i64 a0.X), .d (.int .i64 a0.Y), .d (.int .i64 a0.Z)]] (.d (.bool y)) := by
 refine spec_mir Tryd.func7 rfl (by kernel_rfl) (by kernel_rfl) (fun y : Bool => .d (.bool y)) ?_ h
 unfold r47_InRange
 simp only [List.replicate, List.length, nS, nA, Tryd.ntmps7, SV]
 refine .sR fun e h=>?_
 simp only [seval,EMH]
 refine mU e (.seqK (Mir.joinO (fun v1 : Bool=>([U,U,.d (.bool v1)] ++ us 16)) (fun v1=>⟨[[.d (.int .i64 a0.X),.d (.int .i64 a0.Y),.d (.int .i64 a0.Z)]],[]⟩) (fun _=>rfl) ?_ ?_)) h
 refine .bind fun y1 hy1=>.ite (fun hb2=>?_) (fun hb2=>?_)
 refine .region fun e h=>?_
 simp only [seval,EMH,fld_24_0,sz_2,ag_2,hb2]
 refine SpecS.by (r47_far_spec hy1) (by simp only [seval,FMH,hb2]) ?_
 simp only [seval,EMH,hb2]
 cases h
 simp only [seval,FMH,hb2]
 refine .bind fun y2 hy3=>.ite (fun hb4=>?_) (fun hb4=>?_)
 refine .region fun e h=>?_
 simp only [seval,EMH,fld_24_0,sz_2,ag_2,hb2,hb4]
 refine SpecS.by (r47_far_spec hy1) (by simp only [seval,FMH,hb2,hb4]) ?_
 simp only [seval,EMH,fld_24_1,sz_2,ag_2,hb2,hb4]
 refine SpecS.by (r47_far_spec hy3) (by simp only [seval,FMH,hb2,hb4]) ?_
 simp only [seval,EMH,hb2,hb4]
 cases h
 simp only [seval,FMH,hb2,hb4]
 refine .bind fun y3 hy5=>.region fun e h=>?_
 simp only [seval,EMH,fld_24_0,sz_2,ag_2,hb2,hb4]
 refine SpecS.by (r47_far_spec hy1) (by simp only [seval,FMH,hb2,hb4]) ?_
 simp only [seval,EMH,fld_24_1,sz_2,ag_2,hb2,hb4]
 refine SpecS.by (r47_far_spec hy3) (by simp only [seval,FMH,hb2,hb4]) ?_
 simp only [seval,EMH,fld_24_2,sz_2,ag_2,hb2,hb4]
 refine SpecS.by (r47_far_spec hy5) (by simp only [seval,FMH,hb2,hb4]) ?_
 simp only [seval,EMH,hb2,hb4]
 cases h
 simp only [seval,FMH,hb2,hb4]
 intro v1
 refine Mir.toK (.ret fun e h=>?_)
 cases h
 simp only [seval,FMH,Tryd.results7]
def r47_Same (a0 : (List ApiMotion)) (a1 : (List ApiMotion)) : Option Bool := if ((a0.length : Int) != (a1.length : Int)) = true then some false else bindX (guardO (okIdx a0) ( rangeX (fun (i1 : Nat) (e1 : ApiMotion) (v1 : Unit) => bindO (gt a1 (i1 : Int)) fun (e2 : ApiMotion) => if (!((e1.From.X == e2.From.X) && ((e1.From.Y == e2.From.Y) && ((e1.From.Z == e2.From.Z) && ((e1.To.X == e2.To.X) && ((e1.To.Y == e2.To.Y) && ((e1.To.Z == e2.To.Z) && ((e1.Rate == e2.Rate) && ((e1.Tool == e2.Tool) && (e1.Block == e2.Block)))))))))) = true then some (.ret (.ret false)) else some (.go ())) (fun (v1 : Unit) => some (.go ())) a0 0 ())) fun (v2 : Unit) => some true
theorem r47_Same_spec {a0 : (List ApiMotion)} {a1 : (List ApiMotion)} {y : Bool} (h : r47_Same a0 a1 = some y) : Spec gP 13 [.d (.list (List.map encApiMotion a0)), .d (.list (List.map encApiMotion a1))] (.d (.bool y)) := by
 refine spec_mir Tryd.func13 rfl (by kernel_rfl) (by kernel_rfl) (fun y : Bool => .d (.bool y)) ?_ h
 unfold r47_Same
 simp only [List.replicate, List.length, nS, nA, Tryd.ntmps13, SV]
 refine .sR fun e h=>?_
 simp only [seval,EMH]
 refine mU e (.seqK (.sR fun e h=>?_)) h
 simp only [seval,EMH,und_47]
 refine mU e (.cond rfl (fun hb2=>?_) (fun hb2=>?_)) h
 refine .sR fun e h=>?_
 simp only [seval,EMH]
 refine mU e (.ret fun e h=>?_) h
 cases h
 simp only [seval,FMH,Tryd.results13]
 refine .skip (Mir.toK (.seqK (.sR fun e h=>?_)))
 simp only [seval,EMH]
 refine mU e (Mir.join (fun v2 : Unit=>(us 26)) (fun v2=>⟨[],[]⟩) (fun _=>rfl) ?_ ?_) h
 refine .block (.guard fun qg67=>Mir.range (fun (i1 : Nat) (v1 : Unit)=>([.d (.list (List.map encApiMotion a0)),.d (.list (List.map encApiMotion a1)),U,U,U,.d (.int .i64 (i1 : Int))] ++ us 20)) (fun i1 v1=>⟨[],[]⟩) qg67 (fun _ _=>rfl) (by simp only [seval,FMH,zNI]) (by simp only [seval,FMH,zNI]) ?_ ?_)
 intro i1 e1 v1 qr65
 refine .seqK (.sR fun e h=>?_)
 simp only [seval,EMH,und_47,qr65]
 refine mU e (.condT rfl (.skip (Mir.toK (.seqK (.block (.seqK (.bind fun e2 q70=>?_))))))) h
 replace q70 := gt_ok q70
 simp only [Int.toNat_natCast] at q70
 refine .regionD [] (by kernel_rfl) fun e h=>?_
 simp only [seval,EMH,SB,und_47,sz_67,qr65,Int.toNat_natCast,ag_67,q70,gE_67]
 refine mU e (.cond rfl (fun hb72=>?_) (fun hb72=>?_)) h
 refine .sR fun e h=>?_
 simp only [seval,EMH]
 refine mU e (.ret fun e h=>?_) h
 cases h
 simp only [seval,FMH,Tryd.results13]
 refine .skip (Mir.toB (Mir.toK (.region fun e h=>?_)))
 simp only [seval,EMH]
 cases h
 simp only [seval,FMH,Tryd.results13,qr65]
 intro v1 qd66
 refine .seqK (.sR fun e h=>?_)
 simp only [seval,EMH,und_47,qd66]
 refine mU e (.condF rfl (.exit fun e h=>?_)) h
 cases h
 simp only [seval,FMH,Tryd.results13]
 intro v2
 refine Mir.toK (.sR fun e h=>?_)
 simp only [seval,EMH]
 refine mU e (.ret fun e h=>?_) h
 cases h
 simp only [seval,FMH,Tryd.results13]
def r45_far (a0 : Int) : Option Bool := some ((decide (a0 > 10000000)) || (decide (a0 < (-10000000))))
theorem r45_far_spec {a0 : Int} {y : Bool} (h : r45_far a0 = some y) : Spec gP 35 [.d (.int .i64 a0)] (.d (.bool y)) := by
 refine spec_mir Tryd.func35 rfl (by kernel_rfl) (by kernel_rfl) (fun y : Bool => .d (.bool y)) ?_ h
 unfold r45_far
 simp only [List.replicate, List.length, nS, nA, Tryd.ntmps35, SV]
 refine .sR fun e h=>?_
 simp only [seval,EMH]
 refine mU e (.seqK (.joinV ([U,U,.d (.bool ((decide (a0 > 10000000)) || (decide (a0 < (-10000000)))))] ++ us 6) ⟨[],[]⟩ rfl ?_ ?_)) h
 refine SWs.region ?_
 rcases Bool.eq_false_or_eq_true (decide (a0 > 10000000)) with hb1 | hb1
 simp only [seval,EMH,SL,PB,hb1]
 simp only [seval,EMH,SL,PB,hb1]
 refine Mir.toK (.ret fun e h=>?_)
 cases h
 simp only [seval,FMH,Tryd.results35]
def r45_out (a0 : ApiPos) : Option Bool := bindO (bindO (r45_far a0.X) fun (y1 : Bool) => if y1 = true then some true else bindO (r45_far a0.Y) fun (y2 : Bool) => if y2 = true then some true else bindO (r45_far a0.Z) fun (y3 : Bool) => some y3) fun (v1 : Bool) => some v1
theorem r45_out_spec {a0 : ApiPos} {y : Bool} (h : r45_out a0 = some y) : Spec gP 21 [.agg [.d (.int .i64 a0.X), .d (.int .i64 a0.Y), .d (.int .i64 a0.Z)]] (.d (.bool y)) := by
 refine spec_mir Tryd.func21 rfl (by kernel_rfl) (by kernel_rfl) (fun y : Bool => .d (.bool y)) ?_ h
 unfold r45_out
 simp only [List.replicate, List.length, nS, nA, Tryd.ntmps21, SV]
 refine .sR fun e h=>?_
 simp only [seval,EMH]
 refine mU e (.seqK (Mir.joinO (fun v1 : Bool=>([U,U,.d (.bool v1)] ++ us 13)) (fun v1=>⟨[[.d (.int .i64 a0.X),.d (.int .i64 a0.Y),.d (.int .i64 a0.Z)]],[]⟩) (fun _=>rfl) ?_ ?_)) h
 refine .bind fun y1 hy1=>.ite (fun hb2=>?_) (fun hb2=>?_)
 refine .region fun e h=>?_
 simp only [seval,EMH,fld_24_0,sz_2,ag_2,hb2]
 refine SpecS.by (r45_far_spec hy1) (by simp only [seval,FMH,hb2]) ?_
 simp only [seval,EMH,hb2]
 cases h
 simp only [seval,FMH,hb2]
 refine .bind fun y2 hy3=>.ite (fun hb4=>?_) (fun hb4=>?_)
 refine .region fun e h=>?_
 simp only [seval,EMH,fld_24_0,sz_2,ag_2,hb2,hb4]
 refine SpecS.by (r45_far_spec hy1) (by simp only [seval,FMH,hb2,hb4]) ?_
 simp only [seval,EMH,fld_24_1,sz_2,ag_2,hb2,hb4]
 refine SpecS.by (r45_far_spec hy3) (by simp only [seval,FMH,hb2,hb4]) ?_
 simp only [seval,EMH,hb2,hb4]
 cases h
 simp only [seval,FMH,hb2,hb4]
 refine .bind fun y3 hy5=>.region fun e h=>?_
 simp only [seval,EMH,fld_24_0,sz_2,ag_2,hb2,hb4]
 refine SpecS.by (r45_far_spec hy1) (by simp only [seval,FMH,hb2,hb4]) ?_
 simp only [seval,EMH,fld_24_1,sz_2,ag_2,hb2,hb4]
 refine SpecS.by (r45_far_spec hy3) (by simp only [seval,FMH,hb2,hb4]) ?_
 simp only [seval,EMH,fld_24_2,sz_2,ag_2,hb2,hb4]
 refine SpecS.by (r45_far_spec hy5) (by simp only [seval,FMH,hb2,hb4]) ?_
 simp only [seval,EMH,hb2,hb4]
 cases h
 simp only [seval,FMH,hb2,hb4]
 intro v1
 refine Mir.toK (.ret fun e h=>?_)
 cases h
 simp only [seval,FMH,Tryd.results21]
def r45_entry (a0 : R45Length) : Option Bool := some ((decide (a0.Number ≥ 1)) && ((decide (a0.Number ≤ 999)) && ((decide (a0.Length ≥ 0)) && (decide (a0.Length ≤ 10000000)))))
theorem r45_entry_spec {a0 : R45Length} {y : Bool} (h : r45_entry a0 = some y) : Spec gP 22 [.agg [.d (.int .i64 a0.Number), .d (.int .i64 a0.Length)]] (.d (.bool y)) := by
 refine spec_mir Tryd.func22 rfl (by kernel_rfl) (by kernel_rfl) (fun y : Bool => .d (.bool y)) ?_ h
 unfold r45_entry
 simp only [List.replicate, List.length, nS, nA, Tryd.ntmps22, SV]
 refine .sR fun e h=>?_
 simp only [seval,EMH]
 refine mU e (.seqK (.joinV ([U,U,.d (.bool ((decide (a0.Number ≥ 1)) && ((decide (a0.Number ≤ 999)) && ((decide (a0.Length ≥ 0)) && (decide (a0.Length ≤ 10000000))))))] ++ us 18) ⟨[[.d (.int .i64 a0.Number),.d (.int .i64 a0.Length)]],[]⟩ rfl ?_ ?_)) h
 refine SWs.region ?_
 rcases Bool.eq_false_or_eq_true (decide (a0.Number ≥ 1)) with hb1 | hb1
 rcases Bool.eq_false_or_eq_true (decide (a0.Number ≤ 999)) with hb2 | hb2
 rcases Bool.eq_false_or_eq_true (decide (a0.Length ≥ 0)) with hb3 | hb3
 simp only [seval,EMH,SL,PB,fld_73_0,sz_2,ag_2,fld_73_1,hb1,hb2,hb3]
 simp only [seval,EMH,SL,PB,fld_73_0,sz_2,ag_2,fld_73_1,hb1,hb2,hb3]
 simp only [seval,EMH,SL,PB,fld_73_0,sz_2,ag_2,hb1,hb2]
 simp only [seval,EMH,SL,PB,fld_73_0,sz_2,ag_2,hb1]
 refine Mir.toK (.ret fun e h=>?_)
 cases h
 simp only [seval,FMH,Tryd.results22]
def r45_Valid (a0 : R45Table) : Option Int := bindX (bindO (r45_out a0.Work.e0) fun (y1 : Bool) => if y1 = true then some (.ret 1) else bindO (r45_out a0.Work.e1) fun (y2 : Bool) => if y2 = true then some (.ret 1) else bindO (r45_out a0.Work.e2) fun (y3 : Bool) => if y3 = true then some (.ret 1) else bindO (r45_out a0.Work.e3) fun (y4 : Bool) => if y4 = true then some (.ret 1) else bindO (r45_out a0.Work.e4) fun (y5 : Bool) => if y5 = true then some (.ret 1) else bindO (r45_out a0.Work.e5) fun (y6 : Bool) => if y6 = true then some (.ret 1) else some (.go ())) fun (v1 : Unit) => bindX (guardO (okIdx a0.Lengths) ( rangeX (fun (i1 : Nat) (e1 : R45Length) (v2 : Unit) => bindO (bindO (r45_entry e1) fun (y7 : Bool) => if y7 = true then if (decide ((i1 : Int) > 0)) = true then bindO (gt a0.Lengths (IntKind.i64.wrap ((i1 : Int) - 1))) fun (e2 : R45Length) => some (decide (e1.Number ≤ e2.Number)) else some false else some true) fun (v3 : Bool) => if v3 = true then some (.ret (.ret 1)) else some (.go ())) (fun (v2 : Unit) => some (.go ())) a0.Lengths 0 ())) fun (v4 : Unit) => some 0
theorem r45_Valid_spec {a0 : R45Table} {y : Int} (h : r45_Valid a0 = some y) : Spec gP 6 [.agg [.d (.int .i64 a0.Work.e0.X), .d (.int .i64 a0.Work.e0.Y), .d (.int .i64 a0.Work.e0.Z), .d (.int .i64 a0.Work.e1.X), .d (.int .i64 a0.Work.e1.Y), .d (.int .i64 a0.Work.e1.Z), .d (.int .i64 a0.Work.e2.X), .d (.int .i64 a0.Work.e2.Y), .d (.int .i64 a0.Work.e2.Z), .d (.int .i64 a0.Work.e3.X), .d (.int .i64 a0.Work.e3.Y), .d (.int .i64 a0.Work.e3.Z), .d (.int .i64 a0.Work.e4.X), .d (.int .i64 a0.Work.e4.Y), .d (.int .i64 a0.Work.e4.Z), .d (.int .i64 a0.Work.e5.X), .d (.int .i64 a0.Work.e5.Y), .d (.int .i64 a0.Work.e5.Z), .d (.list (List.map encR45Length a0.Lengths))]] (.d (.int .i64 y)) := by
 refine spec_mir Tryd.func6 rfl (by kernel_rfl) (by kernel_rfl) (fun y : Int => .d (.int .i64 y)) ?_ h
 unfold r45_Valid
 simp only [List.replicate, List.length, nS, nA, Tryd.ntmps6, SV]
 refine .sR fun e h=>?_
 simp only [seval,EMH]
 refine mU e (.seqK (.sR fun e h=>?_)) h
 simp only [seval,EMH]
 refine mU e (Mir.join (fun v1 : Unit=>([U,.ptr 0 0] ++ us 46)) (fun v1=>⟨[[.d (.int .i64 a0.Work.e0.X),.d (.int .i64 a0.Work.e0.Y),.d (.int .i64 a0.Work.e0.Z),.d (.int .i64 a0.Work.e1.X),.d (.int .i64 a0.Work.e1.Y),.d (.int .i64 a0.Work.e1.Z),.d (.int .i64 a0.Work.e2.X),.d (.int .i64 a0.Work.e2.Y),.d (.int .i64 a0.Work.e2.Z),.d (.int .i64 a0.Work.e3.X),.d (.int .i64 a0.Work.e3.Y),.d (.int .i64 a0.Work.e3.Z),.d (.int .i64 a0.Work.e4.X),.d (.int .i64 a0.Work.e4.Y),.d (.int .i64 a0.Work.e4.Z),.d (.int .i64 a0.Work.e5.X),.d (.int .i64 a0.Work.e5.Y),.d (.int .i64 a0.Work.e5.Z),.d (.list (List.map encR45Length a0.Lengths))]],[]⟩) (fun _=>rfl) ?_ ?_) h
 refine .block (.loopR 15 (.seqK (.sR fun e h=>?_)))
 simp only [seval,EMH]
 refine mU e (.condT rfl (.skip (Mir.toK (.seqK (.block (.seqK (.bind fun y1 hy33=>.region fun e h=>?_))))))) h
 simp only [seval,EMH,fld_28_0,sz_25,und_25,sz_24,ag_24]
 refine SpecS.by (r45_out_spec hy33) (by simp only [seval,FMH]) ?_
 simp only [seval,EMH]
 refine mU e (.cond rfl (fun hb35=>?_) (fun hb35=>?_)) h
 refine .sR fun e h=>?_
 simp only [seval,EMH]
 refine mU e (.ret fun e h=>?_) h
 cases h
 simp only [seval,FMH,Tryd.results6]
 refine .skip (Mir.toB (Mir.toK (.region fun e h=>?_)))
 simp only [seval,EMH,(nr rfl : IntKind.i64.wrap 1 = 1)]
 refine Mir.useN (e := e) ?_ h
 refine .seqK (.sR fun e h=>?_)
 simp only [seval,EMH]
 refine mU e (.condT rfl (.skip (Mir.toK (.seqK (.block (.seqK (.bind fun y2 hy38=>.region fun e h=>?_))))))) h
 simp only [seval,EMH,fld_28_0,sz_25,und_25,sz_24,ag_24]
 refine SpecS.by (r45_out_spec hy38) (by simp only [seval,FMH]) ?_
 simp only [seval,EMH]
 refine mU e (.cond rfl (fun hb40=>?_) (fun hb40=>?_)) h
 refine .sR fun e h=>?_
 simp only [seval,EMH]
 refine mU e (.ret fun e h=>?_) h
 cases h
 simp only [seval,FMH,Tryd.results6]
 refine .skip (Mir.toB (Mir.toK (.region fun e h=>?_)))
 simp only [seval,EMH,(nr rfl : IntKind.i64.wrap 2 = 2)]
 refine Mir.useN (e := e) ?_ h
 refine .seqK (.sR fun e h=>?_)
 simp only [seval,EMH]
 refine mU e (.condT rfl (.skip (Mir.toK (.seqK (.block (.seqK (.bind fun y3 hy43=>.region fun e h=>?_))))))) h
 simp only [seval,EMH,fld_28_0,sz_25,und_25,sz_24,ag_24]
 refine SpecS.by (r45_out_spec hy43) (by simp only [seval,FMH]) ?_
 simp only [seval,EMH]
 refine mU e (.cond rfl (fun hb45=>?_) (fun hb45=>?_)) h
 refine .sR fun e h=>?_
 simp only [seval,EMH]
 refine mU e (.ret fun e h=>?_) h
 cases h
 simp only [seval,FMH,Tryd.results6]
 refine .skip (Mir.toB (Mir.toK (.region fun e h=>?_)))
 simp only [seval,EMH,(nr rfl : IntKind.i64.wrap 3 = 3)]
 refine Mir.useN (e := e) ?_ h
 refine .seqK (.sR fun e h=>?_)
 simp only [seval,EMH]
 refine mU e (.condT rfl (.skip (Mir.toK (.seqK (.block (.seqK (.bind fun y4 hy48=>.region fun e h=>?_))))))) h
 simp only [seval,EMH,fld_28_0,sz_25,und_25,sz_24,ag_24]
 refine SpecS.by (r45_out_spec hy48) (by simp only [seval,FMH]) ?_
 simp only [seval,EMH]
 refine mU e (.cond rfl (fun hb50=>?_) (fun hb50=>?_)) h
 refine .sR fun e h=>?_
 simp only [seval,EMH]
 refine mU e (.ret fun e h=>?_) h
 cases h
 simp only [seval,FMH,Tryd.results6]
 refine .skip (Mir.toB (Mir.toK (.region fun e h=>?_)))
 simp only [seval,EMH,(nr rfl : IntKind.i64.wrap 4 = 4)]
 refine Mir.useN (e := e) ?_ h
 refine .seqK (.sR fun e h=>?_)
 simp only [seval,EMH]
 refine mU e (.condT rfl (.skip (Mir.toK (.seqK (.block (.seqK (.bind fun y5 hy53=>.region fun e h=>?_))))))) h
 simp only [seval,EMH,fld_28_0,sz_25,und_25,sz_24,ag_24]
 refine SpecS.by (r45_out_spec hy53) (by simp only [seval,FMH]) ?_
 simp only [seval,EMH]
 refine mU e (.cond rfl (fun hb55=>?_) (fun hb55=>?_)) h
 refine .sR fun e h=>?_
 simp only [seval,EMH]
 refine mU e (.ret fun e h=>?_) h
 cases h
 simp only [seval,FMH,Tryd.results6]
 refine .skip (Mir.toB (Mir.toK (.region fun e h=>?_)))
 simp only [seval,EMH,(nr rfl : IntKind.i64.wrap 5 = 5)]
 refine Mir.useN (e := e) ?_ h
 refine .seqK (.sR fun e h=>?_)
 simp only [seval,EMH]
 refine mU e (.condT rfl (.skip (Mir.toK (.seqK (.block (.seqK (.bind fun y6 hy58=>.region fun e h=>?_))))))) h
 simp only [seval,EMH,fld_28_0,sz_25,und_25,sz_24,ag_24]
 refine SpecS.by (r45_out_spec hy58) (by simp only [seval,FMH]) ?_
 simp only [seval,EMH]
 refine mU e (.cond rfl (fun hb60=>?_) (fun hb60=>?_)) h
 refine .sR fun e h=>?_
 simp only [seval,EMH]
 refine mU e (.ret fun e h=>?_) h
 cases h
 simp only [seval,FMH,Tryd.results6]
 refine .skip (Mir.toB (Mir.toK (.region fun e h=>?_)))
 simp only [seval,EMH,(nr rfl : IntKind.i64.wrap 6 = 6)]
 refine Mir.useN (e := e) ?_ h
 refine .seqK (.sR fun e h=>?_)
 simp only [seval,EMH]
 refine mU e (.condF rfl (.exit fun e h=>?_)) h
 cases h
 simp only [seval,FMH,Tryd.results6]
 intro v1
 refine Mir.toK (.seqK (.sR fun e h=>?_))
 simp only [seval,EMH]
 refine mU e (Mir.join (fun v4 : Unit=>(us 48)) (fun v4=>⟨[[.d (.int .i64 a0.Work.e0.X),.d (.int .i64 a0.Work.e0.Y),.d (.int .i64 a0.Work.e0.Z),.d (.int .i64 a0.Work.e1.X),.d (.int .i64 a0.Work.e1.Y),.d (.int .i64 a0.Work.e1.Z),.d (.int .i64 a0.Work.e2.X),.d (.int .i64 a0.Work.e2.Y),.d (.int .i64 a0.Work.e2.Z),.d (.int .i64 a0.Work.e3.X),.d (.int .i64 a0.Work.e3.Y),.d (.int .i64 a0.Work.e3.Z),.d (.int .i64 a0.Work.e4.X),.d (.int .i64 a0.Work.e4.Y),.d (.int .i64 a0.Work.e4.Z),.d (.int .i64 a0.Work.e5.X),.d (.int .i64 a0.Work.e5.Y),.d (.int .i64 a0.Work.e5.Z),.d (.list (List.map encR45Length a0.Lengths))]],[]⟩) (fun _=>rfl) ?_ ?_) h
 refine .block (.guard fun q1=>Mir.range (fun (i1 : Nat) (v2 : Unit)=>([U,.ptr 0 0,U,U,.d (.int .i64 (i1 : Int))] ++ us 43)) (fun i1 v2=>⟨[[.d (.int .i64 a0.Work.e0.X),.d (.int .i64 a0.Work.e0.Y),.d (.int .i64 a0.Work.e0.Z),.d (.int .i64 a0.Work.e1.X),.d (.int .i64 a0.Work.e1.Y),.d (.int .i64 a0.Work.e1.Z),.d (.int .i64 a0.Work.e2.X),.d (.int .i64 a0.Work.e2.Y),.d (.int .i64 a0.Work.e2.Z),.d (.int .i64 a0.Work.e3.X),.d (.int .i64 a0.Work.e3.Y),.d (.int .i64 a0.Work.e3.Z),.d (.int .i64 a0.Work.e4.X),.d (.int .i64 a0.Work.e4.Y),.d (.int .i64 a0.Work.e4.Z),.d (.int .i64 a0.Work.e5.X),.d (.int .i64 a0.Work.e5.Y),.d (.int .i64 a0.Work.e5.Z),.d (.list (List.map encR45Length a0.Lengths))]],[]⟩) q1 (fun _ _=>rfl) (by simp only [seval,FMH,zNI]) (by simp only [seval,FMH,zNI]) ?_ ?_)
 intro i1 e1 v2 q2
 refine .seqK (.sR fun e h=>?_)
 simp only [seval,EMH,fld_28_1,sz_26,ag_26,und_26,q2]
 refine mU e (.condT rfl (.skip (Mir.toK (.seqK (.block (.seqK (Mir.joinO (fun v3 : Bool=>[U,.ptr 0 0,U,U,.d (.int .i64 (i1 : Int)),U,U,U,U,U,U,U,U,U,U,U,U,U,U,U,U,U,U,U,U,U,U,U,U,U,U,U,U,U,U,U,U,U,U,U,U,U,U,U,U,U,U,.d (.bool v3)]) (fun v3=>⟨[[.d (.int .i64 a0.Work.e0.X),.d (.int .i64 a0.Work.e0.Y),.d (.int .i64 a0.Work.e0.Z),.d (.int .i64 a0.Work.e1.X),.d (.int .i64 a0.Work.e1.Y),.d (.int .i64 a0.Work.e1.Z),.d (.int .i64 a0.Work.e2.X),.d (.int .i64 a0.Work.e2.Y),.d (.int .i64 a0.Work.e2.Z),.d (.int .i64 a0.Work.e3.X),.d (.int .i64 a0.Work.e3.Y),.d (.int .i64 a0.Work.e3.Z),.d (.int .i64 a0.Work.e4.X),.d (.int .i64 a0.Work.e4.Y),.d (.int .i64 a0.Work.e4.Z),.d (.int .i64 a0.Work.e5.X),.d (.int .i64 a0.Work.e5.Y),.d (.int .i64 a0.Work.e5.Z),.d (.list (List.map encR45Length a0.Lengths))]],[]⟩) (fun _=>rfl) ?_ ?_))))))) h
 refine .bind fun y7 h1=>.ite (fun h2=>?_) (fun h2=>?_)
 refine .ite (fun h3=>?_) (fun h3=>?_)
 refine .bind fun e2 q3=>?_
 replace q3 := gt_ok q3
 refine .regionD [] (by kernel_rfl) fun e h=>?_
 simp only [seval,EMH,SB,fld_28_1,sz_26,ag_26,und_26,sz_73,q2,Int.toNat_natCast,ag_73,h2,h3]
 refine Spec.by (r45_entry_spec h1) (by simp only [seval,FMH,h2,h3]) ?_
 simp only [seval,EMH,SB,fld_28_1,sz_26,ag_26,und_26,sz_73,q2,Int.toNat_natCast,fld_73_0,sz_2,ag_2,q3,h2,h3]
 cases h
 simp only [seval,FMH,h2,h3]
 refine .regionD [] (by kernel_rfl) fun e h=>?_
 simp only [seval,EMH,SB,fld_28_1,sz_26,ag_26,und_26,sz_73,q2,Int.toNat_natCast,ag_73,h2,h3]
 refine Spec.by (r45_entry_spec h1) (by simp only [seval,FMH,h2,h3]) ?_
 simp only [seval,EMH,SB,h2,h3]
 cases h
 simp only [seval,FMH,h2,h3]
 refine .regionD [] (by kernel_rfl) fun e h=>?_
 simp only [seval,EMH,SB,fld_28_1,sz_26,ag_26,und_26,sz_73,q2,Int.toNat_natCast,ag_73,h2]
 refine Spec.by (r45_entry_spec h1) (by simp only [seval,FMH,h2]) ?_
 simp only [seval,EMH,SB,h2]
 cases h
 simp only [seval,FMH,h2]
 intro v3
 refine Mir.toK (.cond rfl (fun h4=>?_) (fun h4=>?_))
 refine .sR fun e h=>?_
 simp only [seval,EMH]
 refine mU e (.ret fun e h=>?_) h
 cases h
 simp only [seval,FMH,Tryd.results6]
 refine .skip (Mir.toB (Mir.toK (.region fun e h=>?_)))
 simp only [seval,EMH]
 cases h
 simp only [seval,FMH,Tryd.results6,q2]
 intro v2 q4
 refine .seqK (.sR fun e h=>?_)
 simp only [seval,EMH,fld_28_1,sz_26,ag_26,und_26,q4]
 refine mU e (.condF rfl (.exit fun e h=>?_)) h
 cases h
 simp only [seval,FMH,Tryd.results6]
 intro v4
 refine Mir.toK (.sR fun e h=>?_)
 simp only [seval,EMH]
 refine mU e (.ret fun e h=>?_) h
 cases h
 simp only [seval,FMH,Tryd.results6]
def l47_plus (a0 : ApiPos) (a1 : ApiPos) : Option ApiPos := some (ApiPos.mk (IntKind.i64.wrap (a0.X + a1.X)) (IntKind.i64.wrap (a0.Y + a1.Y)) (IntKind.i64.wrap (a0.Z + a1.Z)))
theorem l47_plus_spec {a0 : ApiPos} {a1 : ApiPos} {y : ApiPos} (h : l47_plus a0 a1 = some y) : Spec gP 10 [.agg [.d (.int .i64 a0.X), .d (.int .i64 a0.Y), .d (.int .i64 a0.Z)], .agg [.d (.int .i64 a1.X), .d (.int .i64 a1.Y), .d (.int .i64 a1.Z)]] (.agg [.d (.int .i64 y.X), .d (.int .i64 y.Y), .d (.int .i64 y.Z)]) := by
 refine spec_mir Tryd.func10 rfl (by kernel_rfl) (by kernel_rfl) (fun y : ApiPos => .agg [.d (.int .i64 y.X), .d (.int .i64 y.Y), .d (.int .i64 y.Z)]) ?_ h
 unfold l47_plus
 simp only [List.replicate, List.length, nS, nA, Tryd.ntmps10, SV]
 refine .sR fun e h=>?_
 simp only [seval,EMH,zero_24]
 refine mU e (.sR fun e h=>?_) h
 simp only [seval,EMH,fld_24_0,sz_2,ag_2,fld_24_1,fld_24_2,zero_24,pl_24,sz_24]
 refine mU e (.ret fun e h=>?_) h
 cases h
 simp only [seval,FMH,Tryd.results10,ag_24,sz_24]
end Go.Proofs.YtopjpenbieojmaaDoor
